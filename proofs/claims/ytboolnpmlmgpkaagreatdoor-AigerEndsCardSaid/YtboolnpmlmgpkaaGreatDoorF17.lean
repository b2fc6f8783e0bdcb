/- Lemmas for the statement of this claim, part F17: they hold with no conditions but those that each one names. -/
import Derived.Test.YtboolnpmlmgpkaaGreatDoorF16
import Derived.Test.YtboolnpmlmgpkaaGreatDoorF11
import Derived.Test.YtboolnpmlmgpkaaGreatDoorF12
set_option linter.unusedVariables false
set_option maxRecDepth 20000
set_option linter.unusedSimpArgs false
set_option linter.unnecessarySimpa false
namespace Go.Proofs.YtboolnpmlmgpkaaGreatDoor
open Go Go.Proofs Go.Abs
def st1 (s : S) (mo : Int) (b N1 : Nat) : RE Fi := zb9 (za6 s mo) N1 (.start b)
def st2 (s : S) (mo : Int) (b N1 N2 : Nat) : RE Fi := match st1 s mo b N1 with
 | .error e => .error e
 | .ok x => zb9 (za7 s mo) N2 x
def st3 (s : S) (mo : Int) (b N1 N2 N3 : Nat) : RE Fi := match st2 s mo b N1 N2 with
 | .error e => .error e
 | .ok x => zb9 (zap s mo) N3 x
def st4 (s : S) (mo : Int) (b N1 N2 N3 N4 : Nat) : RE Fi := match st3 s mo b N1 N2 N3 with
 | .error e => .error e
 | .ok x => zb9 (zcO s mo) N4 x
def stR (s : S) (mo : Int) (b N1 N2 N3 N4 : Nat) : Nat → RE Fi
 | 0 => .ok (.start b)
 | 1 => st1 s mo b N1
 | 2 => st2 s mo b N1 N2
 | 3 => st3 s mo b N1 N2 N3
 | _ => st4 s mo b N1 N2 N3 N4
theorem zrz {s : S} {h : Cl} {b : Nat} : zfX s h b = stR s (2 * h.getD 0 0 + 1) b (h.getD 1 0).toNat (h.getD 2 0).toNat (h.getD 3 0 + h.getD 5 0 + h.getD 6 0).toNat (h.getD 4 0).toNat 4 := by
 unfold zfX
 simp only [stR, st4, st3, st2, st1]
 cases zb9 (za6 s (2 * h.getD 0 0 + 1)) (h.getD 1 0).toNat (.start b) with
 | error e => rfl
 | ok x =>
  dsimp only
  cases zb9 (za7 s (2 * h.getD 0 0 + 1)) (h.getD 2 0).toNat x with
  | error e => rfl
  | ok x =>
   dsimp only
   cases zb9 (zap s (2 * h.getD 0 0 + 1)) (h.getD 3 0 + h.getD 5 0 + h.getD 6 0).toNat x with
   | error e => rfl
   | ok x => rfl
theorem zeV {j : Nat} (h : zcP j = true) : 4 ≤ j := by
 unfold zcP at h
 simp only [Bool.and_eq_true, decide_eq_true_eq] at h
 exact h.1
theorem zwE {s : S} {mo : Int} {b N1 N2 N3 N4 : Nat} {x : Fi} (h : stR s mo b N1 N2 N3 N4 0 = .ok x) : stR s mo b N1 N2 N3 N4 1 = zb9 (za6 s mo) N1 x := by
 cases h; rfl
theorem zwF {s : S} {mo : Int} {b N1 N2 N3 N4 : Nat} {x : Fi} (h : stR s mo b N1 N2 N3 N4 1 = .ok x) : stR s mo b N1 N2 N3 N4 2 = zb9 (za7 s mo) N2 x := by
 have h : st1 s mo b N1 = .ok x := h
 show st2 s mo b N1 N2 = _
 unfold st2; rw [h]
theorem zwG {s : S} {mo : Int} {b N1 N2 N3 N4 : Nat} {x : Fi} (h : stR s mo b N1 N2 N3 N4 2 = .ok x) : stR s mo b N1 N2 N3 N4 3 = zb9 (zap s mo) N3 x := by
 have h : st2 s mo b N1 N2 = .ok x := h
 show st3 s mo b N1 N2 N3 = _
 unfold st3; rw [h]
theorem zwH {s : S} {mo : Int} {b N1 N2 N3 N4 : Nat} {x : Fi} (h : stR s mo b N1 N2 N3 N4 3 = .ok x) : stR s mo b N1 N2 N3 N4 4 = zb9 (zcO s mo) N4 x := by
 have h : st3 s mo b N1 N2 N3 = .ok x := h
 show st4 s mo b N1 N2 N3 N4 = _
 unfold st4; rw [h]
theorem zt7 {s : S} {mo : Int} {b N1 N2 N3 N4 : Nat} {e : Nat × Int} (h : stR s mo b N1 N2 N3 N4 3 = .error e) : stR s mo b N1 N2 N3 N4 4 = .error e := by
 have h : st3 s mo b N1 N2 N3 = .error e := h
 show st4 s mo b N1 N2 N3 N4 = _
 unfold st4; rw [h]
theorem zt8 {s : S} {mo : Int} {b N1 N2 N3 N4 : Nat} {e : Nat × Int} (h : stR s mo b N1 N2 N3 N4 2 = .error e) : stR s mo b N1 N2 N3 N4 4 = .error e := by
 have h : st2 s mo b N1 N2 = .error e := h
 refine zt7 ?_
 show st3 s mo b N1 N2 N3 = _
 unfold st3; rw [h]
theorem zwI {s : S} {mo : Int} {b N1 N2 N3 N4 : Nat} {e : Nat × Int} (h : stR s mo b N1 N2 N3 N4 1 = .error e) : stR s mo b N1 N2 N3 N4 4 = .error e := by
 have h : st1 s mo b N1 = .error e := h
 refine zt8 ?_
 show st2 s mo b N1 N2 = _
 unfold st2; rw [h]
set_option maxHeartbeats 16000000 in
theorem zcH (s : S) (hs : s.length ≤ 100000) : Ev TE 21 [.str s] (zaq s) := by
 have hM : maxLen = 9223372036854775807 := rfl
 refine zbA ?_
 refine zb4 rfl Tryz.func21 rfl (by simp [nts]) fun ok pl0 w0 => ?_
 simp only [nts]
 refine zht (Q := fun _ _ _ => False) ?_ (fun _ _ _ h => by obtain ⟨_, _, _, _, _, _, h⟩ := h; exact h.elim)
 refine vm ?_
 simp only [wq.down, Nat.reduceLT]
 have hsc : ∀ (x : Operand), x ∈ #[Operand.tmp 14, Operand.tmp 3] → (Fr.ev TE ((((Fr.init [V.str s]).put (some 2) (.lp 0 0)).put (some 3) (.lp 1 0)).put (some 14) (.str s)) x).sc := fun x hx => by
  simp only [List.mem_toArray, List.mem_cons, List.not_mem_nil, or_false] at hx
  rcases hx with rfl | rfl
  ·simp only [wq.down, ↓reduceIte]
  ·simp only [wq.down, seval]
 refine ziF (fn := Tryz.f21) (q := 67) (avs := [.str s, .lp 1 0]) (F1 := (((Fr.init [V.str s]).put (some 2) (.lp 0 0)).put (some 3) (.lp 1 0)).put (some 14) (.str s)) rfl ⟨rfl, by simp only [wq.down, Nat.reduceLT], by simp only [wq.down, seval], rfl, rfl, rfl, ⟨.func 67, #[.tmp 14, .tmp 3], _, [], rfl, by simp only [wq.down], by simp only [wq.down], hsc, by simp only [wq.down, seval]⟩, by simp only [wq.down]⟩ rfl rfl fun d => ?_
 obtain ⟨ee, hee⟩ : ∃ ee : E, ee = { TE with tl := [d] } := ⟨_, rfl⟩
 have hP : ee.P = P := by rw [hee]; rfl
 have hmix : ee.P.follows .mixedOrders = true := by rw [hP]; exact mixed
 have hT : ∀ {g : FuncId} {args : List V} {h : H} {R : AEnd → H → (Nat → Bool) → Prop}, zb TE g args h R → zb ee g args h R := fun hc => by rw [hee]; exact hc.tl _
 rw [← hee]
 obtain ⟨QP, eQP⟩ : ∃ QP : XE → Fr → H → Prop, QP = LV TE Tryz.f21 (fun ae h x => match ae with | AEnd.ret v => zw TE h v (zaq s) | AEnd.pan v => False) [(67, [V.str s, V.lp 1 0])] := ⟨_, rfl⟩
 refine zP (Q := QP) (fun xe f' h' hq => by rw [eQP] at hq; exact hq) ?_
 have hkd : ∀ {f' : Fr}, (∀ j, f'.k j = true → 4 ≤ j) → ∀ x ∈ [((67 : FuncId), [V.str s, V.lp 1 0])], V.drops f'.k x.2 = x.2 := fun {f'} h x hx => by
  have z : f'.k 1 = false := by
   cases hj : f'.k 1 with
   | false => rfl
   | true => exact absurd (h 1 hj) (by decide)
  simp only [List.mem_singleton] at hx
  subst hx
  simp [V.drops, V.drop, z]
 have hpan : ∀ {w : Nat} {e : Int} {f' : Fr} {h : H}, zaX s = .error (w, e) → f'.d = [] → (∀ j, f'.k j = true → 4 ≤ j) → f'.t 2 = .lp 0 0 → f'.t 3 = .lp 1 0 → h[0]? = some bM → h[1]? = some bF → QP (.pan (zaR w e)) f' h := by
  intro w e f' h hp hd hk t2 t3 g0 g1
  have l0 : 0 < h.length := (List.getElem?_eq_some_iff.1 g0).1
  have l1 : 1 < h.length := (List.getElem?_eq_some_iff.1 g1).1
  have hv : zaq s = .tup [zh3, zW s w e] := by unfold zaq; rw [hp]
  have hf : ∃ x y z, zW s w e = .agg [vi x, vi y, vi z] := by unfold zW; split <;> exact ⟨_, _, _, rfl⟩
  obtain ⟨e1, e2, e3, hf⟩ := hf
  rw [eQP, hv]
  refine ⟨hd, hkd hk, ?_⟩
  refine zdR w e (by omega) g1 fun X => ⟨fun y hy => (by cases hy), ?_⟩
  have r0 : (h.set 1 (.cells (zW s w e).vc) ++ [X])[0]? = some bM := by
   rw [List.getElem?_append_left (by rw [List.length_set]; exact l0), List.getElem?_set_ne (by decide)]; exact g0
  have r1 : (h.set 1 (.cells (zW s w e).vc) ++ [X])[1]? = some (.cells [vi e1, vi e2, vi e3]) := by
   rw [List.getElem?_append_left (by rw [List.length_set]; exact l1), List.getElem?_set_self l1, hf]; rfl
  obtain ⟨h3, eh3⟩ : ∃ h3, h3 = h.set 1 (.cells (zW s w e).vc) ++ [X] := ⟨_, rfl⟩
  rw [← eh3] at r0 r1 ⊢
  unfold LVr
  simp only [Tryz.results21, nts]
  simp only [wq.down, seval, hd, t2, t3, r0, r1]
  rw [hf]
  exact zw.tup (zu.cons (zw.agg (zu.cons (zw.dat rfl) (zu.cons zw.nils (zu.cons zw.nils (zu.cons zw.nils (zu.cons zw.nils (zu.cons zw.nils (zu.cons zw.nils (zu.cons zw.nils zu.nil))))))))) (zu.cons (zw.dat rfl) zu.nil))
 have hret : ∀ {v w : V} {c1 c2 : List V} {f' : Fr} {h : H}, zaq s = .tup [v, w] → v = .agg c1 → w = .agg c2 → V.dats c1 = true → V.dats c2 = true → f'.d = [] → (∀ j, f'.k j = true → 4 ≤ j) → f'.t 2 = .lp 0 0 → f'.t 3 = .lp 1 0 → h[0]? = some (.cells c1) → c1.length = 8 → h[1]? = some (.cells c2) → c2.length = 3 → QP .ret f' h := by
  intro v w c1 c2 f' h hv h1 h2 d1 d2 hd hk t2 t3 g0 l1 g1 l2
  rw [eQP, hv, h1, h2]
  refine ⟨hd, hkd hk, ?_⟩
  refine zcG fun X => ⟨fun y hy => (by cases hy), ?_⟩
  have r0 : (h ++ [X])[0]? = some (.cells c1) := by rw [List.getElem?_append_left (List.getElem?_eq_some_iff.1 g0).1]; exact g0
  have r1 : (h ++ [X])[1]? = some (.cells c2) := by rw [List.getElem?_append_left (List.getElem?_eq_some_iff.1 g1).1]; exact g1
  unfold LVr
  simp only [Tryz.results21, nts]
  simp only [wq.down, seval, hd, t2, t3, r0, r1]
  refine ⟨⟨by omega, by omega⟩, ?_⟩
  rw [List.take_of_length_le (by omega), List.take_of_length_le (by omega)]
  exact zw.tup (zu.cons (zw.dat d1) (zu.cons (zw.dat d2) zu.nil))
 have hretE : ∀ {e1 e2 e3 : Int} {f' : Fr} {h : H}, zaq s = .tup [zh3, .agg [vi e1, vi e2, vi e3]] → f'.d = [] → (∀ j, f'.k j = true → 4 ≤ j) → f'.t 2 = .lp 0 0 → f'.t 3 = .lp 1 0 → h[0]? = some bM → h[1]? = some (.cells [vi e1, vi e2, vi e3]) → QP .ret f' h := by
  intro e1 e2 e3 f' h hv hd hk t2 t3 g0 g1
  rw [eQP, hv]
  refine ⟨hd, hkd hk, ?_⟩
  refine zcG fun X => ⟨fun y hy => (by cases hy), ?_⟩
  have r0 : (h ++ [X])[0]? = some bM := by rw [List.getElem?_append_left (List.getElem?_eq_some_iff.1 g0).1]; exact g0
  have r1 : (h ++ [X])[1]? = some (.cells [vi e1, vi e2, vi e3]) := by rw [List.getElem?_append_left (List.getElem?_eq_some_iff.1 g1).1]; exact g1
  unfold LVr
  simp only [Tryz.results21, nts]
  simp only [wq.down, seval, hd, t2, t3, r0, r1]
  exact zw.tup (zu.cons (zw.agg (zu.cons (zw.dat rfl) (zu.cons zw.nils (zu.cons zw.nils (zu.cons zw.nils (zu.cons zw.nils (zu.cons zw.nils (zu.cons zw.nils (zu.cons zw.nils zu.nil))))))))) (zu.cons (zw.dat rfl) zu.nil))
 refine za (zaO ?_)
 refine zm rfl rfl ?_
 simp only [wq.down, seval, hP]
 refine zm rfl rfl ?_
 simp only [wq.down, seval, hP]
 refine zm rfl rfl ?_
 simp only [wq.down, Nat.reduceAdd]
 have hq : ti ee.P 119 = some ⟨.map 3 3, 1, 8, .nilm⟩ := by rw [hP]; simp only [wq.down]
 have hqi : ti ee.P 3 = some ⟨.int .i64, 1, 8, .int .i64 0⟩ := by rw [hP]; simp only [wq.down]
 refine zah rfl rfl ?_
 refine znn (t := 119) rfl (id := 2) (by simp only [wq.down, ↓reduceIte]) (by simp only [wq.down, ↓reduceIte]) (by simp only [wq.down]) (by simp only [wq.down]) hq rfl hqi (by simp only [wq.down, K.keyOk]) (ks := []) (vs := []) rfl (by simp only [wq.down, znU, zbb]; rfl) ?_
 simp only [wq.down]
 refine zm rfl rfl ?_
 simp only [wq.down, ↓reduceIte, hP]
 refine zm rfl rfl ?_
 simp only [wq.down, seval, hP]
 refine zm rfl rfl ?_
 simp only [wq.down, seval]
 refine zm rfl rfl ?_
 simp only [wq.down, ↓reduceIte, hP]
 refine zax ?_
 simp only [XE.seq]
 refine zbr (zbr (zbr (zbr (zbr (zbr ?_)))))
 refine zoM (h' := hF bM bF s 0 (.start 0) [0] []) ?_ ?_
 ·refine HLe.set (i := 3) (o' := rdT s 0 (fiT (.start 0) 0)) rfl (OLe.cells (by simp) ?_)
  exact zb3.cons (zar _) (zb3.cons (zar _) (zb3.cons (zar _) (zb3.cons (zar _) (zb3.cons zaG (zb3.cons zaG (zb3.cons zaG (zb3.cons zaG (zb3.cons zaG (zb3.cons zaG zb3.nil)))))))))
 refine za (zC hmix _ _ _ _ ?_)
 simp only [wq.down, seval, hP]
 refine hT (zeU (k := 3) (a0 := 0) (T := fiT (.start 0) 0) rfl hs (fun l b hh => ?_) (fun w e hh b X => ?_))
 ·obtain ⟨a0, a1, a2, a3, a4, a5, a6, rfl, c0, c1, c2, c3, c4, c5, c6, c7, c8, c9⟩ := zh0 hh
  have hpA : zaX s = (match zfX s [a0, a1, a2, a3, a4, a5, a6, 0, 0] b with
   | .error e => .error e
   | .ok x => match zgm s [a1, a2, a3, a5, a6] x.a with
    | .error e => .error e
    | .ok N => zfY x N) := by unfold zaX; rw [hh]; rfl
  have w1 : IntKind.i64.wrap (2 * a0) = 2 * a0 := z6 (by omega) (by omega)
  have w2 : IntKind.i64.wrap (2 * a0 + 1) = 2 * a0 + 1 := z6 (by omega) (by omega)
  obtain ⟨hc, ehc⟩ : ∃ hc : O, hc = .cells [vi a0, vi a1, vi a2, vi a3, vi a4, vi a5, vi a6, vi 0, vi 0] := ⟨_, rfl⟩
  rw [show hR 3 s b (fiT (Fi.start 0) 0) (hF bM bF s 0 (.start 0) [0] []) [O.cells ([a0, a1, a2, a3, a4, a5, a6, 0, 0].map vi)] = hF bM bF s 0 (.start b) [0] [hc] by rw [ehc]; rfl]
  simp only [wq.down, ↓reduceIte, Nat.reduceEqDiff, Nat.reduceLT, Nat.reduceLeDiff, Nat.reduceAdd, Nat.reduceSub, Int.reduceToNat, Nat.reduceDiv, Int.reduceLT, Int.reduceLE, Int.reduceNeg, Int.reduceBEq, Int.reduceBNe, Int.reduceAdd, Int.reduceSub, Nat.reduceBEq, reduceCtorEq, Nat.reduceMul, zn, Tryz.results21, zS, hP]
  rw [show (vi a0 :: vi a1 :: vi a2 :: vi a3 :: vi a4 :: vi a5 :: vi a6 :: vi 0 :: vi 0 :: [] : List V) = [vi a0, vi a1, vi a2, vi a3, vi a4, vi a5, vi a6, vi 0, vi 0] from rfl, ← ehc]
  refine za (zC hmix _ _ _ _ ?_)
  simp only [wq.down, ↓reduceIte, Nat.reduceEqDiff, Nat.reduceLT, Nat.reduceLeDiff, Nat.reduceAdd, Nat.reduceSub, Int.reduceToNat, Nat.reduceDiv, Int.reduceLT, Int.reduceLE, Int.reduceNeg, Int.reduceBEq, Int.reduceBNe, Int.reduceAdd, Int.reduceSub, Nat.reduceBEq, reduceCtorEq, Nat.reduceMul, zn, Tryz.results21, hP, ehc, w1, w2]
  rw [← ehc]
  refine ⟨by decide, ?_⟩
  show awp _ _ _ _ _ _ (hF bM bF s (2 * a0 + 1) (.start b) [0] [hc, hc])
  obtain ⟨mo, hmo⟩ : ∃ mo, mo = 2 * a0 + 1 := ⟨_, rfl⟩
  rw [← hmo]
  obtain ⟨N1, hN1⟩ : ∃ N : Nat, a1 = N := ⟨a1.toNat, by omega⟩
  obtain ⟨N2, hN2⟩ : ∃ N : Nat, a2 = N := ⟨a2.toNat, by omega⟩
  obtain ⟨N3, hN3⟩ : ∃ N : Nat, a3 + a5 + a6 = N := ⟨(a3 + a5 + a6).toNat, by omega⟩
  obtain ⟨N4, hN4⟩ : ∃ N : Nat, a4 = N := ⟨a4.toNat, by omega⟩
  obtain ⟨st, hst⟩ : ∃ st : Nat → RE Fi, st = stR s mo b N1 N2 N3 N4 := ⟨_, rfl⟩
  have hln : zfX s [a0, a1, a2, a3, a4, a5, a6, 0, 0] b = st 4 := by
   rw [hst, zrz, hmo]
   show stR s (2 * a0 + 1) b a1.toNat a2.toNat (a3 + a5 + a6).toNat a4.toNat 4 = _
   rw [hN1, hN2, hN3, hN4]
   simp only [Int.toNat_natCast]
  have r0 : zcP 0 = false := by decide
  have r1 : zcP 1 = false := by decide
  have r3 : zcP 3 = false := by decide
  have r11 : zcP 11 = false := by decide
  have hYd : ∀ x W, zae (hF bM bF s mo x W [hc, hc]) := fun x W => by rw [ehc]; exact zjV (z := [a0, a1, a2, a3, a4, a5, a6, 0, 0])
  have hYq : Qt bM bF [hc, hc] := by rw [ehc]; exact ⟨fun j _ _ => rfl, fun j _ _ => rfl, fun j _ _ => rfl⟩
  have w3 : IntKind.i64.wrap (a3 + a5) = a3 + a5 := z6 (by omega) (by omega)
  have w4 : IntKind.i64.wrap (a3 + a5 + a6) = N3 := by rw [hN3]; exact z6 (by omega) (by omega)
  have hco : ∀ W x, (hF bM bF s mo x W [hc, hc])[11]? = some (.cells [vi a0, vi a1, vi a2, vi a3, vi a4, vi a5, vi a6, vi 0, vi 0]) := fun W x => by rw [ehc]; rfl
  refine za (zP (Q := fun xe f h' => (xe = .normal ∧ ∃ x X, st 4 = .ok x ∧ FOk x ∧ FLn x N1 N2 N3 N4 ∧ f.t 0 = .str s ∧ f.t 2 = .lp 0 0 ∧ f.t 3 = .lp 1 0 ∧ f.t 4 = .lp 3 0 ∧ f.t 5 = .lp 11 0 ∧ f.d = [] ∧ (∀ j, f.k j = true → 4 ≤ j) ∧ h' = hF bM bF s mo x (zB x) [hc, hc] ++ X) ∨ (xe ≠ .normal ∧ QP xe f h')) ?_ ?_)
  ·rintro xe f h' (⟨rfl, x, X, hx4, hfo, hfl, t0, t2, t3, t4, t5, hd, hk, rfl⟩ | ⟨hx, hq⟩)
   ·show awp _ _ _ _ _ _ _
    refine znO (a0 := a0) (a4 := a4) (N1 := N1) (N2 := N2) (N3 := N3) (N4 := N4) hP hT hs ehc hfo hfl (by omega) (by omega) t0 t2 t3 t4 t5 hd hk ?_ hpan hret hretE
    rw [hln, hx4] at hpA
    exact hpA
   ·cases xe with
    | normal => exact absurd rfl hx
    | _ => exact hq
  ·refine za (zC hmix _ _ _ _ ?_)
   simp only [wq.down, seval, hP]
   refine zj ?_
   refine zt (fun mm f h' => ∃ k x X, mm + k = 4 ∧ st k = .ok x ∧ FOk x ∧ FLn x (if 0 < k then N1 else 0) (if 1 < k then N2 else 0) (if 2 < k then N3 else 0) (if 3 < k then N4 else 0) ∧ f.t 0 = .str s ∧ f.t 2 = .lp 0 0 ∧ f.t 3 = .lp 1 0 ∧ f.t 4 = .lp 3 0 ∧ f.t 5 = .lp 11 0 ∧ f.t 40 = .agg [.fn (.func 69) [.lp 3 0] [], .fn (.func 70) [.lp 3 0] [], .fn (.func 71) [.lp 3 0] [], .fn (.func 72) [.lp 3 0] []] ∧ f.t 41 = vi k ∧ f.d = [] ∧ (∀ j, f.k j = true → 4 ≤ j) ∧ h' = hF bM bF s mo x (zB x) [hc, hc] ++ X) 4 ⟨0, .start b, [], rfl, by rw [hst]; rfl, (zmH b).1, (zmH b).2, by simp only [wq.down, seval], by simp only [wq.down, seval], by simp only [wq.down, seval], by simp only [wq.down, seval], by simp only [wq.down, seval], by simp only [wq.down, seval], rfl, rfl, fun j hj => (by cases hj), by rw [List.append_nil]; rfl⟩ ?_
   rintro mm f h' ⟨k, x, X, hm, hsk, hfo, hfl, t0, t2, t3, t4, t5, t40, t41, hd, hk, rfl⟩
   refine zan (by rw [hd]; simp) ?_
   rw [(hYd _ _).from_]
   obtain ⟨f', hf'⟩ : ∃ f', f' = f.drop (Abs.zK (hF bM bF s mo x (zB x) [hc, hc]).length) := ⟨_, rfl⟩
   have u0 : f'.t 0 = .str s := by rw [hf']; show (f.t 0).drop _ = _; rw [t0]; rfl
   have u2 : f'.t 2 = .lp 0 0 := by rw [hf']; show (f.t 2).drop _ = _; rw [t2]; rfl
   have u3 : f'.t 3 = .lp 1 0 := by rw [hf']; show (f.t 3).drop _ = _; rw [t3]; rfl
   have u4 : f'.t 4 = .lp 3 0 := by rw [hf']; show (f.t 4).drop _ = _; rw [t4]; rfl
   have u5 : f'.t 5 = .lp 11 0 := by rw [hf']; show (f.t 5).drop _ = _; rw [t5]; rfl
   have u40 : f'.t 40 = .agg [.fn (.func 69) [.lp 3 0] [], .fn (.func 70) [.lp 3 0] [], .fn (.func 71) [.lp 3 0] [], .fn (.func 72) [.lp 3 0] []] := by rw [hf']; show (f.t 40).drop _ = _; rw [t40]; rfl
   have u41 : f'.t 41 = vi k := by rw [hf']; show (f.t 41).drop _ = _; rw [t41]; rfl
   have ud : f'.d = [] := by rw [hf']; exact hd
   have uk : ∀ j, f'.k j = true → 4 ≤ j := fun j hj => by
    rw [hf'] at hj
    have hj2 : (f.k j || Abs.zK 12 j) = true := hj
    rcases Bool.or_eq_true_iff.1 hj2 with h | h
    ·exact hk j h
    ·have : 12 ≤ j := by simpa [Abs.zK] using h
     omega
   rw [← hf']
   clear hf' hd hk t0 t2 t3 t4 t5 t40 t41 X
   refine za (zC hmix _ _ _ _ ?_)
   simp only [wq.down, ↓reduceIte, Nat.reduceEqDiff, Nat.reduceLT, Nat.reduceLeDiff, Nat.reduceAdd, Nat.reduceSub, Int.reduceToNat, Nat.reduceDiv, Int.reduceLT, Int.reduceLE, Int.reduceNeg, Int.reduceBEq, Int.reduceBNe, Int.reduceAdd, Int.reduceSub, Nat.reduceBEq, reduceCtorEq, Nat.reduceMul, zn, Tryz.results21, hP, u0, u2, u3, u4, u5, u40, u41, ud]
   refine za (zC hmix _ _ _ _ ?_)
   simp only [wq.down, ↓reduceIte, Nat.reduceEqDiff, Nat.reduceLT, Nat.reduceLeDiff, Nat.reduceAdd, Nat.reduceSub, Int.reduceToNat, Nat.reduceDiv, Int.reduceLT, Int.reduceLE, Int.reduceNeg, Int.reduceBEq, Int.reduceBNe, Int.reduceAdd, Int.reduceSub, Nat.reduceBEq, reduceCtorEq, Nat.reduceMul, zn, Tryz.results21, hP, u0, u2, u3, u4, u5, u40, u41, ud]
   refine vcB.mk (fun hlt => ?_) (fun hlt => ?_)
   ·have hlt : k < 4 := by
     have := of_decide_eq_true hlt
     omega
    refine za (zj ?_)
    rcases k with _|_|_|_|k
    ·show awp _ _ _ _ _ _ _
     have hfl : FLn x 0 0 0 0 := hfl
     refine za (zC hmix _ _ _ _ ?_)
     simp only [wq.down, ↓reduceIte, Nat.reduceEqDiff, Nat.reduceLT, Nat.reduceLeDiff, Nat.reduceAdd, Nat.reduceSub, Int.reduceToNat, Nat.reduceDiv, Int.reduceLT, Int.reduceLE, Int.reduceNeg, Int.reduceBEq, Int.reduceBNe, Int.reduceAdd, Int.reduceSub, Nat.reduceBEq, reduceCtorEq, Nat.reduceMul, zn, Tryz.results21, hP, u0, u2, u3, u4, u5, u40, u41, ud]
     refine ⟨by decide, ?_⟩
     refine za (zC hmix _ _ _ _ ?_)
     simp only [wq.down, ↓reduceIte, Nat.reduceEqDiff, Nat.reduceLT, Nat.reduceLeDiff, Nat.reduceAdd, Nat.reduceSub, Int.reduceToNat, Nat.reduceDiv, Int.reduceLT, Int.reduceLE, Int.reduceNeg, Int.reduceBEq, Int.reduceBNe, Int.reduceAdd, Int.reduceSub, Nat.reduceBEq, reduceCtorEq, Nat.reduceMul, zn, Tryz.results21, hP, u0, u2, u3, u4, u5, u40, u41, ud, ehc, w3, w4]
     rw [← ehc]
     refine ⟨by decide, by decide, by decide, by decide, by decide, by decide, by decide, ?_⟩
     refine zj ?_
     refine zt (fun mq f h' => ∃ i y X, mq + i = N1 ∧ zb9 (za6 s mo) N1 x = zb9 (za6 s mo) (N1 - i) y ∧ FOk y ∧ FLn y i 0 0 0 ∧ f.t 0 = .str s ∧ f.t 2 = .lp 0 0 ∧ f.t 3 = .lp 1 0 ∧ f.t 4 = .lp 3 0 ∧ f.t 5 = .lp 11 0 ∧ f.t 40 = .agg [.fn (.func 69) [.lp 3 0] [], .fn (.func 70) [.lp 3 0] [], .fn (.func 71) [.lp 3 0] [], .fn (.func 72) [.lp 3 0] []] ∧ f.t 41 = vi (0 : Nat) ∧ f.t 7 = .fn (.func 69) [.lp 3 0] [] ∧ f.t 61 = vi N1 ∧ f.t 62 = vi i ∧ f.d = [] ∧ (∀ j, f.k j = true → 4 ≤ j) ∧ h' = hF bM bF s mo y (zB y) [hc, hc] ++ X) N1 ⟨0, x, [], by simp, by simp, hfo, hfl, by simp only [wq.down, seval, u0], by simp only [wq.down, seval, u2], by simp only [wq.down, seval, u3], by simp only [wq.down, seval, u4], by simp only [wq.down, seval, u5], by simp only [wq.down, seval, u40], by simp only [wq.down, seval, u41], by simp only [wq.down, seval], by simp only [wq.down, seval, hN1, hN2, hN4], rfl, by simp only [wq.down, ud], fun j hj => uk j hj, by rw [List.append_nil]⟩ ?_
     clear u0 u2 u3 u4 u5 u40 u41 ud uk
     rintro mq f h' ⟨i, y, X, hmq, hrp, hfoy, hfy, t0, t2, t3, t4, t5, t40, t41, t7, t61, t62, hd, hk, rfl⟩
     refine zan (by rw [hd]; simp) ?_
     rw [(hYd _ _).from_]
     obtain ⟨f', hf'⟩ : ∃ f', f' = f.drop (Abs.zK (hF bM bF s mo y (zB y) [hc, hc]).length) := ⟨_, rfl⟩
     have u0 : f'.t 0 = .str s := by rw [hf']; show (f.t 0).drop _ = _; rw [t0]; rfl
     have u2 : f'.t 2 = .lp 0 0 := by rw [hf']; show (f.t 2).drop _ = _; rw [t2]; rfl
     have u3 : f'.t 3 = .lp 1 0 := by rw [hf']; show (f.t 3).drop _ = _; rw [t3]; rfl
     have u4 : f'.t 4 = .lp 3 0 := by rw [hf']; show (f.t 4).drop _ = _; rw [t4]; rfl
     have u5 : f'.t 5 = .lp 11 0 := by rw [hf']; show (f.t 5).drop _ = _; rw [t5]; rfl
     have u40 : f'.t 40 = .agg [.fn (.func 69) [.lp 3 0] [], .fn (.func 70) [.lp 3 0] [], .fn (.func 71) [.lp 3 0] [], .fn (.func 72) [.lp 3 0] []] := by rw [hf']; show (f.t 40).drop _ = _; rw [t40]; rfl
     have u41 : f'.t 41 = vi (0 : Nat) := by rw [hf']; show (f.t 41).drop _ = _; rw [t41]; rfl
     have u7 : f'.t 7 = .fn (.func 69) [.lp 3 0] [] := by rw [hf']; show (f.t 7).drop _ = _; rw [t7]; rfl
     have u61 : f'.t 61 = vi N1 := by rw [hf']; show (f.t 61).drop _ = _; rw [t61]; rfl
     have u62 : f'.t 62 = vi i := by rw [hf']; show (f.t 62).drop _ = _; rw [t62]; rfl
     have ud : f'.d = [] := by rw [hf']; exact hd
     have uk : ∀ j, f'.k j = true → 4 ≤ j := fun j hj => by
      rw [hf'] at hj
      have hj2 : (f.k j || Abs.zK 12 j) = true := hj
      rcases Bool.or_eq_true_iff.1 hj2 with h | h
      ·exact hk j h
      ·have : 12 ≤ j := by simpa [Abs.zK] using h
       omega
     rw [← hf']
     clear hf' hd hk t0 t2 t3 t4 t5 t40 t41 t7 t61 t62 X
     refine za (zC hmix _ _ _ _ ?_)
     simp only [wq.down, Nat.reduceLT, hP, u61, u62]
     refine za (zC hmix _ _ _ _ ?_)
     simp only [wq.down, ↓reduceIte]
     refine vcB.mk (fun hlt => ?_) (fun hlt => ?_)
     ·have hlt : i < N1 := by
       have := of_decide_eq_true hlt
       omega
      have hw := zi (show i < maxLen by omega)
      obtain ⟨j, hj⟩ : ∃ j, N1 - i = j + 1 := ⟨N1 - i - 1, by omega⟩
      rw [hj, show zb9 (za6 s mo) (j + 1) y = (match za6 s mo y with
       | .error e => .error e
       | .ok z => zb9 (za6 s mo) j z) from rfl] at hrp
      refine za (zj ?_)
      refine zC hmix _ _ _ _ ?_
      simp only [wq.down, seval, hP, u7]
      have hnext : st 1 = zb9 (za6 s mo) N1 x := by rw [hst] at hsk ⊢; exact zwE hsk
      refine hT (zkI hYq hs (by have := hfy.l1; omega) (fun z hz => ?_) (fun w e z hz => ?_))
      ·rw [hz] at hrp
       dsimp only at hrp
       obtain ⟨g1, g2⟩ := zro hz hfoy hfy
       simp only [wq.down, zS, ud]
       refine zC hmix _ _ _ _ ?_
       simp only [wq.down, seval, hP, u62, hw]
       refine .inl ⟨mq - 1, by omega, i + 1, z, [], by omega, by rw [hrp]; congr 1; omega, g1, g2, by simp only [wq.down, seval, u0], by simp only [wq.down, seval, u2, r0], by simp only [wq.down, seval, u3, r1], by simp only [wq.down, seval, u4, r3], by simp only [wq.down, seval, u5, r11], by simp only [wq.down, seval, u40, r3], by simp only [wq.down, seval, u41], by simp only [wq.down, seval, u7, r3], by simp only [wq.down, seval, u61], rfl, by simp only [wq.down, ud], fun j hj => ?_, ?_⟩
       ·have h2 : (f'.k j || zcP j) = true := hj
        rcases Bool.or_eq_true_iff.1 h2 with h | h
        ·exact uk j h
        ·exact zeV h
       ·rfl
      ·rw [hz] at hrp
       dsimp only at hrp
       rw [hrp] at hnext
       have h4 : st 4 = .error (w, e) := by rw [hst] at hnext ⊢; exact zwI hnext
       rw [h4] at hln
       rw [hln] at hpA
       simp only [wq.down, zR, ud]
       simp only [XE.block, XE.seq]
       refine .inr ⟨fun h => (by cases h), hpan hpA (by simp only [wq.down, ud]) (fun j hj => ?_) (by simp only [wq.down, seval, u2, r0]) (by simp only [wq.down, seval, u3, r1]) rfl rfl⟩
       have h2 : (f'.k j || zcP j) = true := hj
       rcases Bool.or_eq_true_iff.1 h2 with h | h
       ·exact uk j h
       ·exact zeV h
     ·have hiN : i = N1 := by
       have := of_decide_eq_false hlt
       omega
      subst hiN
      have hnext : st 1 = zb9 (za6 s mo) i x := by rw [hst] at hsk ⊢; exact zwE hsk
      rw [Nat.sub_self] at hrp
      rw [hrp] at hnext
      have hw := zi (show 0 < maxLen by omega)
      simp only [wq.down]
      refine zC hmix _ _ _ _ ?_
      simp only [wq.down, seval, hP, u41]
      exact .inl ⟨mm - 1, by omega, 1, y, [], by omega, hnext, hfoy, hfy, by simp only [wq.down, seval, u0], by simp only [wq.down, seval, u2], by simp only [wq.down, seval, u3], by simp only [wq.down, seval, u4], by simp only [wq.down, seval, u5], by simp only [wq.down, ↓reduceIte, Nat.reduceEqDiff, Nat.reduceLT, Nat.reduceLeDiff, Nat.reduceAdd, Nat.reduceSub, Int.reduceToNat, Nat.reduceDiv, Int.reduceLT, Int.reduceLE, Int.reduceNeg, Int.reduceBEq, Int.reduceBNe, Int.reduceAdd, Int.reduceSub, Nat.reduceBEq, reduceCtorEq, Nat.reduceMul, zn, Tryz.results21, u40], rfl, by simp only [wq.down, ↓reduceIte, Nat.reduceEqDiff, Nat.reduceLT, Nat.reduceLeDiff, Nat.reduceAdd, Nat.reduceSub, Int.reduceToNat, Nat.reduceDiv, Int.reduceLT, Int.reduceLE, Int.reduceNeg, Int.reduceBEq, Int.reduceBNe, Int.reduceAdd, Int.reduceSub, Nat.reduceBEq, reduceCtorEq, Nat.reduceMul, zn, Tryz.results21, ud], fun j hj => uk j hj, rfl⟩
    ·show awp _ _ _ _ _ _ _
     have hfl : FLn x N1 0 0 0 := hfl
     refine za (zC hmix _ _ _ _ ?_)
     simp only [wq.down, ↓reduceIte, Nat.reduceEqDiff, Nat.reduceLT, Nat.reduceLeDiff, Nat.reduceAdd, Nat.reduceSub, Int.reduceToNat, Nat.reduceDiv, Int.reduceLT, Int.reduceLE, Int.reduceNeg, Int.reduceBEq, Int.reduceBNe, Int.reduceAdd, Int.reduceSub, Nat.reduceBEq, reduceCtorEq, Nat.reduceMul, zn, Tryz.results21, hP, u0, u2, u3, u4, u5, u40, u41, ud]
     refine ⟨by decide, ?_⟩
     refine za (zC hmix _ _ _ _ ?_)
     simp only [wq.down, ↓reduceIte, Nat.reduceEqDiff, Nat.reduceLT, Nat.reduceLeDiff, Nat.reduceAdd, Nat.reduceSub, Int.reduceToNat, Nat.reduceDiv, Int.reduceLT, Int.reduceLE, Int.reduceNeg, Int.reduceBEq, Int.reduceBNe, Int.reduceAdd, Int.reduceSub, Nat.reduceBEq, reduceCtorEq, Nat.reduceMul, zn, Tryz.results21, hP, u0, u2, u3, u4, u5, u40, u41, ud, ehc, w3, w4]
     rw [← ehc]
     refine ⟨by decide, by decide, by decide, by decide, by decide, by decide, by decide, ?_⟩
     refine zj ?_
     refine zt (fun mq f h' => ∃ i y X, mq + i = N2 ∧ zb9 (za7 s mo) N2 x = zb9 (za7 s mo) (N2 - i) y ∧ FOk y ∧ FLn y N1 i 0 0 ∧ f.t 0 = .str s ∧ f.t 2 = .lp 0 0 ∧ f.t 3 = .lp 1 0 ∧ f.t 4 = .lp 3 0 ∧ f.t 5 = .lp 11 0 ∧ f.t 40 = .agg [.fn (.func 69) [.lp 3 0] [], .fn (.func 70) [.lp 3 0] [], .fn (.func 71) [.lp 3 0] [], .fn (.func 72) [.lp 3 0] []] ∧ f.t 41 = vi (1 : Nat) ∧ f.t 7 = .fn (.func 70) [.lp 3 0] [] ∧ f.t 61 = vi N2 ∧ f.t 62 = vi i ∧ f.d = [] ∧ (∀ j, f.k j = true → 4 ≤ j) ∧ h' = hF bM bF s mo y (zB y) [hc, hc] ++ X) N2 ⟨0, x, [], by simp, by simp, hfo, hfl, by simp only [wq.down, seval, u0], by simp only [wq.down, seval, u2], by simp only [wq.down, seval, u3], by simp only [wq.down, seval, u4], by simp only [wq.down, seval, u5], by simp only [wq.down, seval, u40], by simp only [wq.down, seval, u41], by simp only [wq.down, seval], by simp only [wq.down, seval, hN1, hN2, hN4], rfl, by simp only [wq.down, ud], fun j hj => uk j hj, by rw [List.append_nil]⟩ ?_
     clear u0 u2 u3 u4 u5 u40 u41 ud uk
     rintro mq f h' ⟨i, y, X, hmq, hrp, hfoy, hfy, t0, t2, t3, t4, t5, t40, t41, t7, t61, t62, hd, hk, rfl⟩
     refine zan (by rw [hd]; simp) ?_
     rw [(hYd _ _).from_]
     obtain ⟨f', hf'⟩ : ∃ f', f' = f.drop (Abs.zK (hF bM bF s mo y (zB y) [hc, hc]).length) := ⟨_, rfl⟩
     have u0 : f'.t 0 = .str s := by rw [hf']; show (f.t 0).drop _ = _; rw [t0]; rfl
     have u2 : f'.t 2 = .lp 0 0 := by rw [hf']; show (f.t 2).drop _ = _; rw [t2]; rfl
     have u3 : f'.t 3 = .lp 1 0 := by rw [hf']; show (f.t 3).drop _ = _; rw [t3]; rfl
     have u4 : f'.t 4 = .lp 3 0 := by rw [hf']; show (f.t 4).drop _ = _; rw [t4]; rfl
     have u5 : f'.t 5 = .lp 11 0 := by rw [hf']; show (f.t 5).drop _ = _; rw [t5]; rfl
     have u40 : f'.t 40 = .agg [.fn (.func 69) [.lp 3 0] [], .fn (.func 70) [.lp 3 0] [], .fn (.func 71) [.lp 3 0] [], .fn (.func 72) [.lp 3 0] []] := by rw [hf']; show (f.t 40).drop _ = _; rw [t40]; rfl
     have u41 : f'.t 41 = vi (1 : Nat) := by rw [hf']; show (f.t 41).drop _ = _; rw [t41]; rfl
     have u7 : f'.t 7 = .fn (.func 70) [.lp 3 0] [] := by rw [hf']; show (f.t 7).drop _ = _; rw [t7]; rfl
     have u61 : f'.t 61 = vi N2 := by rw [hf']; show (f.t 61).drop _ = _; rw [t61]; rfl
     have u62 : f'.t 62 = vi i := by rw [hf']; show (f.t 62).drop _ = _; rw [t62]; rfl
     have ud : f'.d = [] := by rw [hf']; exact hd
     have uk : ∀ j, f'.k j = true → 4 ≤ j := fun j hj => by
      rw [hf'] at hj
      have hj2 : (f.k j || Abs.zK 12 j) = true := hj
      rcases Bool.or_eq_true_iff.1 hj2 with h | h
      ·exact hk j h
      ·have : 12 ≤ j := by simpa [Abs.zK] using h
       omega
     rw [← hf']
     clear hf' hd hk t0 t2 t3 t4 t5 t40 t41 t7 t61 t62 X
     refine za (zC hmix _ _ _ _ ?_)
     simp only [wq.down, Nat.reduceLT, hP, u61, u62]
     refine za (zC hmix _ _ _ _ ?_)
     simp only [wq.down, ↓reduceIte]
     refine vcB.mk (fun hlt => ?_) (fun hlt => ?_)
     ·have hlt : i < N2 := by
       have := of_decide_eq_true hlt
       omega
      have hw := zi (show i < maxLen by omega)
      obtain ⟨j, hj⟩ : ∃ j, N2 - i = j + 1 := ⟨N2 - i - 1, by omega⟩
      rw [hj, show zb9 (za7 s mo) (j + 1) y = (match za7 s mo y with
       | .error e => .error e
       | .ok z => zb9 (za7 s mo) j z) from rfl] at hrp
      refine za (zj ?_)
      refine zC hmix _ _ _ _ ?_
      simp only [wq.down, seval, hP, u7]
      have hnext : st 2 = zb9 (za7 s mo) N2 x := by rw [hst] at hsk ⊢; exact zwF hsk
      refine hT (zkJ hYq hs (by have := hfy.l2; omega) (by have := hfy.l3; omega) (by have := hfy.l4; omega) (fun z hz X => ?_) (fun w e z hz W X => ?_))
      ·rw [hz] at hrp
       dsimp only at hrp
       obtain ⟨g1, g2⟩ := zrq hz hfoy hfy
       simp only [wq.down, zS, ud]
       refine zC hmix _ _ _ _ ?_
       simp only [wq.down, seval, hP, u62, hw]
       refine .inl ⟨mq - 1, by omega, i + 1, z, X, by omega, by rw [hrp]; congr 1; omega, g1, g2, by simp only [wq.down, seval, u0], by simp only [wq.down, seval, u2, r0], by simp only [wq.down, seval, u3, r1], by simp only [wq.down, seval, u4, r3], by simp only [wq.down, seval, u5, r11], by simp only [wq.down, seval, u40, r3], by simp only [wq.down, seval, u41], by simp only [wq.down, seval, u7, r3], by simp only [wq.down, seval, u61], rfl, by simp only [wq.down, ud], fun j hj => ?_, ?_⟩
       ·have h2 : (f'.k j || zcP j) = true := hj
        rcases Bool.or_eq_true_iff.1 h2 with h | h
        ·exact uk j h
        ·exact zeV h
       ·rfl
      ·rw [hz] at hrp
       dsimp only at hrp
       rw [hrp] at hnext
       have h4 : st 4 = .error (w, e) := by rw [hst] at hnext ⊢; exact zt8 hnext
       rw [h4] at hln
       rw [hln] at hpA
       simp only [wq.down, zR, ud]
       simp only [XE.block, XE.seq]
       refine .inr ⟨fun h => (by cases h), hpan hpA (by simp only [wq.down, ud]) (fun j hj => ?_) (by simp only [wq.down, seval, u2, r0]) (by simp only [wq.down, seval, u3, r1]) rfl rfl⟩
       have h2 : (f'.k j || zcP j) = true := hj
       rcases Bool.or_eq_true_iff.1 h2 with h | h
       ·exact uk j h
       ·exact zeV h
     ·have hiN : i = N2 := by
       have := of_decide_eq_false hlt
       omega
      subst hiN
      have hnext : st 2 = zb9 (za7 s mo) i x := by rw [hst] at hsk ⊢; exact zwF hsk
      rw [Nat.sub_self] at hrp
      rw [hrp] at hnext
      have hw := zi (show 1 < maxLen by omega)
      simp only [wq.down]
      refine zC hmix _ _ _ _ ?_
      simp only [wq.down, seval, hP, u41]
      exact .inl ⟨mm - 1, by omega, 2, y, [], by omega, hnext, hfoy, hfy, by simp only [wq.down, seval, u0], by simp only [wq.down, seval, u2], by simp only [wq.down, seval, u3], by simp only [wq.down, seval, u4], by simp only [wq.down, seval, u5], by simp only [wq.down, ↓reduceIte, Nat.reduceEqDiff, Nat.reduceLT, Nat.reduceLeDiff, Nat.reduceAdd, Nat.reduceSub, Int.reduceToNat, Nat.reduceDiv, Int.reduceLT, Int.reduceLE, Int.reduceNeg, Int.reduceBEq, Int.reduceBNe, Int.reduceAdd, Int.reduceSub, Nat.reduceBEq, reduceCtorEq, Nat.reduceMul, zn, Tryz.results21, u40], rfl, by simp only [wq.down, ↓reduceIte, Nat.reduceEqDiff, Nat.reduceLT, Nat.reduceLeDiff, Nat.reduceAdd, Nat.reduceSub, Int.reduceToNat, Nat.reduceDiv, Int.reduceLT, Int.reduceLE, Int.reduceNeg, Int.reduceBEq, Int.reduceBNe, Int.reduceAdd, Int.reduceSub, Nat.reduceBEq, reduceCtorEq, Nat.reduceMul, zn, Tryz.results21, ud], fun j hj => uk j hj, rfl⟩
    ·show awp _ _ _ _ _ _ _
     have hfl : FLn x N1 N2 0 0 := hfl
     refine za (zC hmix _ _ _ _ ?_)
     simp only [wq.down, ↓reduceIte, Nat.reduceEqDiff, Nat.reduceLT, Nat.reduceLeDiff, Nat.reduceAdd, Nat.reduceSub, Int.reduceToNat, Nat.reduceDiv, Int.reduceLT, Int.reduceLE, Int.reduceNeg, Int.reduceBEq, Int.reduceBNe, Int.reduceAdd, Int.reduceSub, Nat.reduceBEq, reduceCtorEq, Nat.reduceMul, zn, Tryz.results21, hP, u0, u2, u3, u4, u5, u40, u41, ud]
     refine ⟨by decide, ?_⟩
     refine za (zC hmix _ _ _ _ ?_)
     simp only [wq.down, ↓reduceIte, Nat.reduceEqDiff, Nat.reduceLT, Nat.reduceLeDiff, Nat.reduceAdd, Nat.reduceSub, Int.reduceToNat, Nat.reduceDiv, Int.reduceLT, Int.reduceLE, Int.reduceNeg, Int.reduceBEq, Int.reduceBNe, Int.reduceAdd, Int.reduceSub, Nat.reduceBEq, reduceCtorEq, Nat.reduceMul, zn, Tryz.results21, hP, u0, u2, u3, u4, u5, u40, u41, ud, ehc, w3, w4]
     rw [← ehc]
     refine ⟨by decide, by decide, by decide, by decide, by decide, by decide, by decide, ?_⟩
     refine zj ?_
     refine zt (fun mq f h' => ∃ i y X, mq + i = N3 ∧ zb9 (zap s mo) N3 x = zb9 (zap s mo) (N3 - i) y ∧ FOk y ∧ FLn y N1 N2 i 0 ∧ f.t 0 = .str s ∧ f.t 2 = .lp 0 0 ∧ f.t 3 = .lp 1 0 ∧ f.t 4 = .lp 3 0 ∧ f.t 5 = .lp 11 0 ∧ f.t 40 = .agg [.fn (.func 69) [.lp 3 0] [], .fn (.func 70) [.lp 3 0] [], .fn (.func 71) [.lp 3 0] [], .fn (.func 72) [.lp 3 0] []] ∧ f.t 41 = vi (2 : Nat) ∧ f.t 7 = .fn (.func 71) [.lp 3 0] [] ∧ f.t 61 = vi N3 ∧ f.t 62 = vi i ∧ f.d = [] ∧ (∀ j, f.k j = true → 4 ≤ j) ∧ h' = hF bM bF s mo y (zB y) [hc, hc] ++ X) N3 ⟨0, x, [], by simp, by simp, hfo, hfl, by simp only [wq.down, seval, u0], by simp only [wq.down, seval, u2], by simp only [wq.down, seval, u3], by simp only [wq.down, seval, u4], by simp only [wq.down, seval, u5], by simp only [wq.down, seval, u40], by simp only [wq.down, seval, u41], by simp only [wq.down, seval], by simp only [wq.down, seval, hN1, hN2, hN4], rfl, by simp only [wq.down, ud], fun j hj => uk j hj, by rw [List.append_nil]⟩ ?_
     clear u0 u2 u3 u4 u5 u40 u41 ud uk
     rintro mq f h' ⟨i, y, X, hmq, hrp, hfoy, hfy, t0, t2, t3, t4, t5, t40, t41, t7, t61, t62, hd, hk, rfl⟩
     refine zan (by rw [hd]; simp) ?_
     rw [(hYd _ _).from_]
     obtain ⟨f', hf'⟩ : ∃ f', f' = f.drop (Abs.zK (hF bM bF s mo y (zB y) [hc, hc]).length) := ⟨_, rfl⟩
     have u0 : f'.t 0 = .str s := by rw [hf']; show (f.t 0).drop _ = _; rw [t0]; rfl
     have u2 : f'.t 2 = .lp 0 0 := by rw [hf']; show (f.t 2).drop _ = _; rw [t2]; rfl
     have u3 : f'.t 3 = .lp 1 0 := by rw [hf']; show (f.t 3).drop _ = _; rw [t3]; rfl
     have u4 : f'.t 4 = .lp 3 0 := by rw [hf']; show (f.t 4).drop _ = _; rw [t4]; rfl
     have u5 : f'.t 5 = .lp 11 0 := by rw [hf']; show (f.t 5).drop _ = _; rw [t5]; rfl
     have u40 : f'.t 40 = .agg [.fn (.func 69) [.lp 3 0] [], .fn (.func 70) [.lp 3 0] [], .fn (.func 71) [.lp 3 0] [], .fn (.func 72) [.lp 3 0] []] := by rw [hf']; show (f.t 40).drop _ = _; rw [t40]; rfl
     have u41 : f'.t 41 = vi (2 : Nat) := by rw [hf']; show (f.t 41).drop _ = _; rw [t41]; rfl
     have u7 : f'.t 7 = .fn (.func 71) [.lp 3 0] [] := by rw [hf']; show (f.t 7).drop _ = _; rw [t7]; rfl
     have u61 : f'.t 61 = vi N3 := by rw [hf']; show (f.t 61).drop _ = _; rw [t61]; rfl
     have u62 : f'.t 62 = vi i := by rw [hf']; show (f.t 62).drop _ = _; rw [t62]; rfl
     have ud : f'.d = [] := by rw [hf']; exact hd
     have uk : ∀ j, f'.k j = true → 4 ≤ j := fun j hj => by
      rw [hf'] at hj
      have hj2 : (f.k j || Abs.zK 12 j) = true := hj
      rcases Bool.or_eq_true_iff.1 hj2 with h | h
      ·exact hk j h
      ·have : 12 ≤ j := by simpa [Abs.zK] using h
       omega
     rw [← hf']
     clear hf' hd hk t0 t2 t3 t4 t5 t40 t41 t7 t61 t62 X
     refine za (zC hmix _ _ _ _ ?_)
     simp only [wq.down, Nat.reduceLT, hP, u61, u62]
     refine za (zC hmix _ _ _ _ ?_)
     simp only [wq.down, ↓reduceIte]
     refine vcB.mk (fun hlt => ?_) (fun hlt => ?_)
     ·have hlt : i < N3 := by
       have := of_decide_eq_true hlt
       omega
      have hw := zi (show i < maxLen by omega)
      obtain ⟨j, hj⟩ : ∃ j, N3 - i = j + 1 := ⟨N3 - i - 1, by omega⟩
      rw [hj, show zb9 (zap s mo) (j + 1) y = (match zap s mo y with
       | .error e => .error e
       | .ok z => zb9 (zap s mo) j z) from rfl] at hrp
      refine za (zj ?_)
      refine zC hmix _ _ _ _ ?_
      simp only [wq.down, seval, hP, u7]
      have hnext : st 3 = zb9 (zap s mo) N3 x := by rw [hst] at hsk ⊢; exact zwG hsk
      refine hT (zjc (W := zB y) hYq hs (by have := hfy.l5; omega) (fun z hz X => ?_) (fun w e z hz X => ?_))
      ·rw [hz] at hrp
       dsimp only at hrp
       obtain ⟨g1, g2⟩ := znL hz hfoy hfy
       have hzD : zB z = zB y := by
        unfold zap at hz
        cases hu : zh5 s mo y with
        | error e => rw [hu] at hz; cases hz
        | ok v =>
         obtain ⟨u, z'⟩ := v
         rw [hu] at hz
         dsimp only at hz
         obtain ⟨⟨b', rfl⟩, _⟩ := zcF hu
         obtain rfl := zbY hz
         rfl
       rw [← hzD]
       simp only [wq.down, zS, ud]
       refine zC hmix _ _ _ _ ?_
       simp only [wq.down, seval, hP, u62, hw]
       refine .inl ⟨mq - 1, by omega, i + 1, z, X, by omega, by rw [hrp]; congr 1; omega, g1, g2, by simp only [wq.down, seval, u0], by simp only [wq.down, seval, u2, r0], by simp only [wq.down, seval, u3, r1], by simp only [wq.down, seval, u4, r3], by simp only [wq.down, seval, u5, r11], by simp only [wq.down, seval, u40, r3], by simp only [wq.down, seval, u41], by simp only [wq.down, seval, u7, r3], by simp only [wq.down, seval, u61], rfl, by simp only [wq.down, ud], fun j hj => ?_, ?_⟩
       ·have h2 : (f'.k j || zcP j) = true := hj
        rcases Bool.or_eq_true_iff.1 h2 with h | h
        ·exact uk j h
        ·exact zeV h
       ·rfl
      ·rw [hz] at hrp
       dsimp only at hrp
       rw [hrp] at hnext
       have h4 : st 4 = .error (w, e) := by rw [hst] at hnext ⊢; exact zt7 hnext
       rw [h4] at hln
       rw [hln] at hpA
       simp only [wq.down, zR, ud]
       simp only [XE.block, XE.seq]
       refine .inr ⟨fun h => (by cases h), hpan hpA (by simp only [wq.down, ud]) (fun j hj => ?_) (by simp only [wq.down, seval, u2, r0]) (by simp only [wq.down, seval, u3, r1]) rfl rfl⟩
       have h2 : (f'.k j || zcP j) = true := hj
       rcases Bool.or_eq_true_iff.1 h2 with h | h
       ·exact uk j h
       ·exact zeV h
     ·have hiN : i = N3 := by
       have := of_decide_eq_false hlt
       omega
      subst hiN
      have hnext : st 3 = zb9 (zap s mo) i x := by rw [hst] at hsk ⊢; exact zwG hsk
      rw [Nat.sub_self] at hrp
      rw [hrp] at hnext
      have hw := zi (show 2 < maxLen by omega)
      simp only [wq.down]
      refine zC hmix _ _ _ _ ?_
      simp only [wq.down, seval, hP, u41]
      exact .inl ⟨mm - 1, by omega, 3, y, [], by omega, hnext, hfoy, hfy, by simp only [wq.down, seval, u0], by simp only [wq.down, seval, u2], by simp only [wq.down, seval, u3], by simp only [wq.down, seval, u4], by simp only [wq.down, seval, u5], by simp only [wq.down, ↓reduceIte, Nat.reduceEqDiff, Nat.reduceLT, Nat.reduceLeDiff, Nat.reduceAdd, Nat.reduceSub, Int.reduceToNat, Nat.reduceDiv, Int.reduceLT, Int.reduceLE, Int.reduceNeg, Int.reduceBEq, Int.reduceBNe, Int.reduceAdd, Int.reduceSub, Nat.reduceBEq, reduceCtorEq, Nat.reduceMul, zn, Tryz.results21, u40], rfl, by simp only [wq.down, ↓reduceIte, Nat.reduceEqDiff, Nat.reduceLT, Nat.reduceLeDiff, Nat.reduceAdd, Nat.reduceSub, Int.reduceToNat, Nat.reduceDiv, Int.reduceLT, Int.reduceLE, Int.reduceNeg, Int.reduceBEq, Int.reduceBNe, Int.reduceAdd, Int.reduceSub, Nat.reduceBEq, reduceCtorEq, Nat.reduceMul, zn, Tryz.results21, ud], fun j hj => uk j hj, rfl⟩
    ·show awp _ _ _ _ _ _ _
     have hfl : FLn x N1 N2 N3 0 := hfl
     refine za (zC hmix _ _ _ _ ?_)
     simp only [wq.down, ↓reduceIte, Nat.reduceEqDiff, Nat.reduceLT, Nat.reduceLeDiff, Nat.reduceAdd, Nat.reduceSub, Int.reduceToNat, Nat.reduceDiv, Int.reduceLT, Int.reduceLE, Int.reduceNeg, Int.reduceBEq, Int.reduceBNe, Int.reduceAdd, Int.reduceSub, Nat.reduceBEq, reduceCtorEq, Nat.reduceMul, zn, Tryz.results21, hP, u0, u2, u3, u4, u5, u40, u41, ud]
     refine ⟨by decide, ?_⟩
     refine za (zC hmix _ _ _ _ ?_)
     simp only [wq.down, ↓reduceIte, Nat.reduceEqDiff, Nat.reduceLT, Nat.reduceLeDiff, Nat.reduceAdd, Nat.reduceSub, Int.reduceToNat, Nat.reduceDiv, Int.reduceLT, Int.reduceLE, Int.reduceNeg, Int.reduceBEq, Int.reduceBNe, Int.reduceAdd, Int.reduceSub, Nat.reduceBEq, reduceCtorEq, Nat.reduceMul, zn, Tryz.results21, hP, u0, u2, u3, u4, u5, u40, u41, ud, ehc, w3, w4]
     rw [← ehc]
     refine ⟨by decide, by decide, by decide, by decide, by decide, by decide, by decide, ?_⟩
     refine zj ?_
     refine zt (fun mq f h' => ∃ i y X, mq + i = N4 ∧ zb9 (zcO s mo) N4 x = zb9 (zcO s mo) (N4 - i) y ∧ FOk y ∧ FLn y N1 N2 N3 i ∧ f.t 0 = .str s ∧ f.t 2 = .lp 0 0 ∧ f.t 3 = .lp 1 0 ∧ f.t 4 = .lp 3 0 ∧ f.t 5 = .lp 11 0 ∧ f.t 40 = .agg [.fn (.func 69) [.lp 3 0] [], .fn (.func 70) [.lp 3 0] [], .fn (.func 71) [.lp 3 0] [], .fn (.func 72) [.lp 3 0] []] ∧ f.t 41 = vi (3 : Nat) ∧ f.t 7 = .fn (.func 72) [.lp 3 0] [] ∧ f.t 61 = vi N4 ∧ f.t 62 = vi i ∧ f.d = [] ∧ (∀ j, f.k j = true → 4 ≤ j) ∧ h' = hF bM bF s mo y (zB y) [hc, hc] ++ X) N4 ⟨0, x, [], by simp, by simp, hfo, hfl, by simp only [wq.down, seval, u0], by simp only [wq.down, seval, u2], by simp only [wq.down, seval, u3], by simp only [wq.down, seval, u4], by simp only [wq.down, seval, u5], by simp only [wq.down, seval, u40], by simp only [wq.down, seval, u41], by simp only [wq.down, seval], by simp only [wq.down, seval, hN1, hN2, hN4], rfl, by simp only [wq.down, ud], fun j hj => uk j hj, by rw [List.append_nil]⟩ ?_
     clear u0 u2 u3 u4 u5 u40 u41 ud uk
     rintro mq f h' ⟨i, y, X, hmq, hrp, hfoy, hfy, t0, t2, t3, t4, t5, t40, t41, t7, t61, t62, hd, hk, rfl⟩
     refine zan (by rw [hd]; simp) ?_
     rw [(hYd _ _).from_]
     obtain ⟨f', hf'⟩ : ∃ f', f' = f.drop (Abs.zK (hF bM bF s mo y (zB y) [hc, hc]).length) := ⟨_, rfl⟩
     have u0 : f'.t 0 = .str s := by rw [hf']; show (f.t 0).drop _ = _; rw [t0]; rfl
     have u2 : f'.t 2 = .lp 0 0 := by rw [hf']; show (f.t 2).drop _ = _; rw [t2]; rfl
     have u3 : f'.t 3 = .lp 1 0 := by rw [hf']; show (f.t 3).drop _ = _; rw [t3]; rfl
     have u4 : f'.t 4 = .lp 3 0 := by rw [hf']; show (f.t 4).drop _ = _; rw [t4]; rfl
     have u5 : f'.t 5 = .lp 11 0 := by rw [hf']; show (f.t 5).drop _ = _; rw [t5]; rfl
     have u40 : f'.t 40 = .agg [.fn (.func 69) [.lp 3 0] [], .fn (.func 70) [.lp 3 0] [], .fn (.func 71) [.lp 3 0] [], .fn (.func 72) [.lp 3 0] []] := by rw [hf']; show (f.t 40).drop _ = _; rw [t40]; rfl
     have u41 : f'.t 41 = vi (3 : Nat) := by rw [hf']; show (f.t 41).drop _ = _; rw [t41]; rfl
     have u7 : f'.t 7 = .fn (.func 72) [.lp 3 0] [] := by rw [hf']; show (f.t 7).drop _ = _; rw [t7]; rfl
     have u61 : f'.t 61 = vi N4 := by rw [hf']; show (f.t 61).drop _ = _; rw [t61]; rfl
     have u62 : f'.t 62 = vi i := by rw [hf']; show (f.t 62).drop _ = _; rw [t62]; rfl
     have ud : f'.d = [] := by rw [hf']; exact hd
     have uk : ∀ j, f'.k j = true → 4 ≤ j := fun j hj => by
      rw [hf'] at hj
      have hj2 : (f.k j || Abs.zK 12 j) = true := hj
      rcases Bool.or_eq_true_iff.1 hj2 with h | h
      ·exact hk j h
      ·have : 12 ≤ j := by simpa [Abs.zK] using h
       omega
     rw [← hf']
     clear hf' hd hk t0 t2 t3 t4 t5 t40 t41 t7 t61 t62 X
     refine za (zC hmix _ _ _ _ ?_)
     simp only [wq.down, Nat.reduceLT, hP, u61, u62]
     refine za (zC hmix _ _ _ _ ?_)
     simp only [wq.down, ↓reduceIte]
     refine vcB.mk (fun hlt => ?_) (fun hlt => ?_)
     ·have hlt : i < N4 := by
       have := of_decide_eq_true hlt
       omega
      have hw := zi (show i < maxLen by omega)
      obtain ⟨j, hj⟩ : ∃ j, N4 - i = j + 1 := ⟨N4 - i - 1, by omega⟩
      rw [hj, show zb9 (zcO s mo) (j + 1) y = (match zcO s mo y with
       | .error e => .error e
       | .ok z => zb9 (zcO s mo) j z) from rfl] at hrp
      refine za (zj ?_)
      refine zC hmix _ _ _ _ ?_
      simp only [wq.down, seval, hP, u7]
      have hnext : st 4 = zb9 (zcO s mo) N4 x := by rw [hst] at hsk ⊢; exact zwH hsk
      refine hT (znH hYq hs (by have := hfy.l6; omega) (fun z hz X => ?_) (fun w e z hz W X => ?_))
      ·rw [hz] at hrp
       dsimp only at hrp
       obtain ⟨g1, g2⟩ := zth hz hfoy hfy
       simp only [wq.down, zS, ud]
       refine zC hmix _ _ _ _ ?_
       simp only [wq.down, seval, hP, u62, hw]
       refine .inl ⟨mq - 1, by omega, i + 1, z, X, by omega, by rw [hrp]; congr 1; omega, g1, g2, by simp only [wq.down, seval, u0], by simp only [wq.down, seval, u2, r0], by simp only [wq.down, seval, u3, r1], by simp only [wq.down, seval, u4, r3], by simp only [wq.down, seval, u5, r11], by simp only [wq.down, seval, u40, r3], by simp only [wq.down, seval, u41], by simp only [wq.down, seval, u7, r3], by simp only [wq.down, seval, u61], rfl, by simp only [wq.down, ud], fun j hj => ?_, ?_⟩
       ·have h2 : (f'.k j || zcP j) = true := hj
        rcases Bool.or_eq_true_iff.1 h2 with h | h
        ·exact uk j h
        ·exact zeV h
       ·rfl
      ·rw [hz] at hrp
       dsimp only at hrp
       rw [hrp] at hnext
       have h4 : st 4 = .error (w, e) := by rw [hst] at hnext ⊢; exact hnext
       rw [h4] at hln
       rw [hln] at hpA
       simp only [wq.down, zR, ud]
       simp only [XE.block, XE.seq]
       refine .inr ⟨fun h => (by cases h), hpan hpA (by simp only [wq.down, ud]) (fun j hj => ?_) (by simp only [wq.down, seval, u2, r0]) (by simp only [wq.down, seval, u3, r1]) rfl rfl⟩
       have h2 : (f'.k j || zcP j) = true := hj
       rcases Bool.or_eq_true_iff.1 h2 with h | h
       ·exact uk j h
       ·exact zeV h
     ·have hiN : i = N4 := by
       have := of_decide_eq_false hlt
       omega
      subst hiN
      have hnext : st 4 = zb9 (zcO s mo) i x := by rw [hst] at hsk ⊢; exact zwH hsk
      rw [Nat.sub_self] at hrp
      rw [hrp] at hnext
      have hw := zi (show 3 < maxLen by omega)
      simp only [wq.down]
      refine zC hmix _ _ _ _ ?_
      simp only [wq.down, seval, hP, u41]
      exact .inl ⟨mm - 1, by omega, 4, y, [], by omega, hnext, hfoy, hfy, by simp only [wq.down, seval, u0], by simp only [wq.down, seval, u2], by simp only [wq.down, seval, u3], by simp only [wq.down, seval, u4], by simp only [wq.down, seval, u5], by simp only [wq.down, seval, u40], rfl, by simp only [wq.down, ud], fun j hj => uk j hj, rfl⟩
    ·omega
   ·have hk4 : k = 4 := by
     have := of_decide_eq_false hlt
     omega
    subst hk4
    simp only [wq.down, seval, u0, u2, u3, u4, u5, ud]
    exact .inl ⟨x, [], hsk, hfo, hfl, uk, rfl⟩
 ·simp only [wq.down, zR]
  simp only [XE.seq]
  have hpA : zaX s = .error (w, e) := by unfold zaX; rw [hh]
  exact hpan hpA rfl (fun j hj => (by cases hj)) rfl rfl rfl rfl
def zkN (s magic : S) : V := match ze2 s magic with
 | .error (w, e) => .tup [.agg [vi 0, vi 0, vi 0, vi 0, vi 0, vi 0, vi 0, vi 0, vi 0], vi 0, zW s w e]
 | .ok (l, b) => .tup [.agg (l.map vi), vi b, .agg [vi 0, vi 0, vi 0]]
abbrev b9 : O := .cells [vi 0, vi 0, vi 0, vi 0, vi 0, vi 0, vi 0, vi 0, vi 0]
def zt9 : Plan := .take 1 <| .take 2 <| .take 3 <| .alt 0 (.alt 4 (.alt 5 (.one 6 <| .take 7 <| .one 8 <| .fin) (.one 6 (.take 7 <| .one 5 <| .one 8 <| .fin))) (.alt 5 (.alt 4 (.one 6 <| .take 7 <| .one 8 <| .fin) (.one 6 (.one 4 <| .take 7 <| .one 8 <| .fin))) (.one 6 (.alt 4 (.take 7 <| .one 5 <| .one 8 <| .fin) (.one 5 (.one 4 <| .take 7 <| .one 8 <| .fin)))))) (.alt 4 (.alt 0 (.alt 5 (.one 6 <| .take 7 <| .one 8 <| .fin) (.one 6 (.take 7 <| .one 5 <| .one 8 <| .fin))) (.one 5 (.one 0 <| .one 6 <| .take 7 <| .one 8 <| .fin))) (.one 5 (.alt 0 (.alt 4 (.one 6 <| .take 7 <| .one 8 <| .fin) (.one 6 (.one 4 <| .take 7 <| .one 8 <| .fin))) (.one 4 (.one 0 <| .one 6 <| .take 7 <| .one 8 <| .fin)))))
set_option maxHeartbeats 4000000 in
theorem zrA (s magic : S) (hs : s.length ≤ 100000) : Ev TE 53 [.str s, .str magic] (zkN s magic) := by
 have hM : maxLen = 9223372036854775807 := rfl
 refine zbA ?_
 refine zb4 rfl Tryz.func53 rfl (by simp [nts]) fun ok pl0 w0 => ?_
 simp only [nts]
 refine zht (Q := fun _ _ _ => False) ?_ (fun _ _ _ h => by obtain ⟨_, _, _, _, _, _, h⟩ := h; exact h.elim)
 refine vm ?_
 simp only [wq.down, Nat.reduceLT]
 obtain ⟨F0, hF0⟩ : ∃ F0 : Fr, F0 = (((Fr.init [V.str s, V.str magic]).put (some 4) (.lp 0 0)).put (some 5) (vi 0)).put (some 6) (.lp 1 0) := ⟨_, rfl⟩
 have hsc : ∀ (x : Operand), x ∈ #[Operand.tmp 9, Operand.tmp 6] → (Fr.ev TE (((((Fr.init [V.str s, V.str magic]).put (some 4) (.lp 0 0)).put (some 5) (vi 0)).put (some 6) (.lp 1 0)).put (some 9) (.str s)) x).sc := fun x hx => by
  simp only [List.mem_toArray, List.mem_cons, List.not_mem_nil, or_false] at hx
  rcases hx with rfl | rfl
  ·simp only [wq.down, ↓reduceIte]
  ·simp only [wq.down, seval]
 refine ziF (fn := Tryz.f53) (q := 67) (avs := [.str s, .lp 1 0]) (F1 := ((((Fr.init [V.str s, V.str magic]).put (some 4) (.lp 0 0)).put (some 5) (vi 0)).put (some 6) (.lp 1 0)).put (some 9) (.str s)) rfl ⟨rfl, by simp only [wq.down, Nat.reduceLT], by simp only [wq.down, seval], rfl, rfl, rfl, ⟨.func 67, #[.tmp 9, .tmp 6], _, [], rfl, by simp only [wq.down], by simp only [wq.down], hsc, by simp only [wq.down, seval]⟩, by simp only [wq.down]⟩ rfl rfl fun d => ?_
 obtain ⟨ee, hee⟩ : ∃ ee : E, ee = { TE with tl := [d] } := ⟨_, rfl⟩
 have hP : ee.P = P := by rw [hee]; rfl
 have hmix : ee.P.follows .mixedOrders = true := by rw [hP]; exact mixed
 have hT : ∀ {g : FuncId} {args : List V} {h : H} {R : AEnd → H → (Nat → Bool) → Prop}, zb TE g args h R → zb ee g args h R := fun hc => by rw [hee]; exact hc.tl _
 rw [← hee]
 obtain ⟨QP, eQP⟩ : ∃ QP : XE → Fr → H → Prop, QP = LV TE Tryz.f53 (fun ae h x => match ae with | AEnd.ret v => zw TE h v (zkN s magic) | AEnd.pan v => False) [(67, [V.str s, V.lp 1 0])] := ⟨_, rfl⟩
 refine zP (Q := QP) (fun xe f' h' hq => by rw [eQP] at hq; exact hq) ?_
 have hkd : ∀ {f' : Fr}, (∀ j, f'.k j = true → 4 ≤ j) → ∀ x ∈ [((67 : FuncId), [V.str s, V.lp 1 0])], V.drops f'.k x.2 = x.2 := fun {f'} h x hx => by
  have z : f'.k 1 = false := by
   cases hj : f'.k 1 with
   | false => rfl
   | true => exact absurd (h 1 hj) (by decide)
  simp only [List.mem_singleton] at hx
  subst hx
  simp [V.drops, V.drop, z]
 have hpan : ∀ {w : Nat} {e : Int} {f' : Fr} {h : H}, ze2 s magic = .error (w, e) → f'.d = [] → (∀ j, f'.k j = true → 4 ≤ j) → f'.t 4 = .lp 0 0 → f'.t 5 = vi 0 → f'.t 6 = .lp 1 0 → h[0]? = some b9 → h[1]? = some bF → QP (.pan (zaR w e)) f' h := by
  intro w e f' h hp hd hk t4 t5 t6 g0 g1
  have l0 : 0 < h.length := (List.getElem?_eq_some_iff.1 g0).1
  have l1 : 1 < h.length := (List.getElem?_eq_some_iff.1 g1).1
  have hv : zkN s magic = .tup [.agg [vi 0, vi 0, vi 0, vi 0, vi 0, vi 0, vi 0, vi 0, vi 0], vi 0, zW s w e] := by unfold zkN; rw [hp]
  have hf : ∃ x y z, zW s w e = .agg [vi x, vi y, vi z] := by unfold zW; split <;> exact ⟨_, _, _, rfl⟩
  obtain ⟨e1, e2, e3, hf⟩ := hf
  rw [eQP, hv]
  refine ⟨hd, hkd hk, ?_⟩
  refine zdR w e (by omega) g1 fun X => ⟨fun y hy => (by cases hy), ?_⟩
  have r0 : (h.set 1 (.cells (zW s w e).vc) ++ [X])[0]? = some b9 := by
   rw [List.getElem?_append_left (by rw [List.length_set]; exact l0), List.getElem?_set_ne (by decide)]; exact g0
  have r1 : (h.set 1 (.cells (zW s w e).vc) ++ [X])[1]? = some (.cells [vi e1, vi e2, vi e3]) := by
   rw [List.getElem?_append_left (by rw [List.length_set]; exact l1), List.getElem?_set_self l1, hf]; rfl
  obtain ⟨h3, eh3⟩ : ∃ h3, h3 = h.set 1 (.cells (zW s w e).vc) ++ [X] := ⟨_, rfl⟩
  rw [← eh3] at r0 r1 ⊢
  unfold LVr
  simp only [Tryz.results53, nts]
  simp only [wq.down, seval, hd, t4, t5, t6, r0, r1]
  rw [hf]
  exact zw.dat rfl
 have hret : ∀ {l : Cl} {b : Nat} {f' : Fr} {h : H}, ze2 s magic = .ok (l, b) → f'.d = [] → (∀ j, f'.k j = true → 4 ≤ j) → f'.t 4 = .lp 0 0 → f'.t 5 = vi b → f'.t 6 = .lp 1 0 → h[0]? = some (.cells (l.map vi)) → h[1]? = some bF → QP .ret f' h := by
  intro l b f' h hv hd hk t4 t5 t6 g0 g1
  obtain ⟨a0, a1, a2, a3, a4, a5, a6, rfl, _⟩ := zh0 hv
  rw [eQP, show zkN s magic = .tup [.agg [vi a0, vi a1, vi a2, vi a3, vi a4, vi a5, vi a6, vi 0, vi 0], vi b, .agg [vi 0, vi 0, vi 0]] by unfold zkN; rw [hv]; rfl]
  refine ⟨hd, hkd hk, ?_⟩
  refine zcG fun X => ⟨fun y hy => (by cases hy), ?_⟩
  have r0 : (h ++ [X])[0]? = some (.cells [vi a0, vi a1, vi a2, vi a3, vi a4, vi a5, vi a6, vi 0, vi 0]) := by rw [List.getElem?_append_left (List.getElem?_eq_some_iff.1 g0).1]; exact g0
  have r1 : (h ++ [X])[1]? = some bF := by rw [List.getElem?_append_left (List.getElem?_eq_some_iff.1 g1).1]; exact g1
  unfold LVr
  simp only [Tryz.results53, nts]
  simp only [wq.down, seval, hd, t4, t5, t6, r0, r1]
  exact zw.dat rfl
 refine za (zC hmix _ _ _ _ ?_)
 simp only [wq.down, seval, hP]
 refine za (zC hmix _ _ _ _ ?_)
 simp only [wq.down, seval, hP]
 refine hT (zeU (k := 2) (a0 := 0) (T := []) rfl hs (fun l b hh => ?_) (fun w e hh b X => ?_))
 ·obtain ⟨a0, a1, a2, a3, a4, a5, a6, rfl, _⟩ := zh0 hh
  rw [show hR 2 s b [] [b9, bF, .cells [.str s, vi 0]] [.cells ([a0, a1, a2, a3, a4, a5, a6, 0, 0].map vi)] = [b9, bF, .cells [.str s, vi b], .cells [vi a0, vi a1, vi a2, vi a3, vi a4, vi a5, vi a6, vi 0, vi 0]] from rfl]
  simp only [wq.down, seval, hP]
  refine za ?_
  refine zN hmix zt9 (fun f h => f.d = [] ∧ (∀ j, f.k j = true → 4 ≤ j) ∧ f.t 4 = .lp 0 0 ∧ f.t 5 = vi b ∧ f.t 6 = .lp 1 0 ∧ h[0]? = some (.cells [vi a0, vi a1, vi a2, vi a3, vi a4, vi a5, vi a6, vi 0, vi 0]) ∧ h[1]? = some bF) (by rw [hP]; decide +kernel) (by decide +kernel) ?_ ?_
  ·simp only [wq.down, seval, zt9, hP]
  ·rintro f h ⟨hd, hk, t4, t5, t6, g0, g1⟩
   show awp _ _ _ _ _ _ _
   refine zC hmix _ _ _ _ ?_
   simp only [wq.down]
   exact hret hh hd hk t4 t5 t6 g0 g1
 ·simp only [wq.down, zR]
  simp only [XE.seq]
  exact hpan hh rfl (fun j hj => (by cases hj)) rfl rfl rfl rfl rfl
end Go.Proofs.YtboolnpmlmgpkaaGreatDoor
