/- Functions of the program, part 09. -/
import Derived.Test.YtajcfppemkdomaaF08
set_option linter.unusedVariables false
set_option linter.unusedSimpArgs false
set_option linter.unnecessarySimpa false
namespace Go.Proofs.Ytajcfppemkdomaa
open Go Go.Proofs Go.Abs

section
variable {n : Nat} {bud : Int} {L : Lay} {S : St} {h : H} {a : Int} {j : Nat} {l d Lc : List Cl}

theorem restarts_calls {R : AEnd → H → (Nat → Bool) → Prop} (hr : R (.ret (.fn (.func 64) [] [])) h (fun _ => false)) : ACalls TE 46 [] h R := by
  refine ACalls.of_awp Try.func46 rfl (by simp [nts]) (vc_ok mixed _ _ _ _ ?_)
  simp only [sz.down, ↓reduceIte, Nat.reduceLT, TEP, nts, Try.results46]
  exact hr

/-- How a search ends. -/
def Ends (n : Nat) (l : List Cl) (bud : Int) (S : St) (res : Int) : Prop :=
  (res = 0 ∧ Bad (l ++ S.ln) []) ∨ (res = 1 ∧ sat l (valsS n S) = true) ∨ (res = 2 ∧ (S.ln.length : Int) = bud)

structure Big (n : Nat) (l : List Cl) (bud : Int) (B : Nat) : Prop where
  pos : 0 ≤ bud
  few : ∀ S, Inv n l l S.ln S → (S.ln.length : Int) ≤ bud → S.ln.length ≤ B
  nx : (n + 1) * (2 * B + 4) ≤ 100000000
  nc : l.length + B ≤ 700000
  nn : n ≤ 20000

theorem nx_add {n b : Nat} {x y : Nat} (h : x ≤ n * (1 + b)) (h2 : y ≤ x + n) : y ≤ n * (1 + (b + 1)) := by
  have : n * (1 + (b + 1)) = n * (1 + b) + n := by rw [show 1 + (b + 1) = (1 + b) + 1 by omega, Nat.mul_succ]
  omega
theorem nx_le {n b b' : Nat} {x : Nat} (h : x ≤ n * (1 + b)) (hb : b ≤ b') : x ≤ n * (1 + b') := Nat.le_trans h (Nat.mul_le_mul_left _ (by omega))
theorem Big.nx_big {B b : Nat} (big : Big n l bud B) {x : Nat} (h : x ≤ n * (1 + b)) (hb : b ≤ 2 * B + 3) : x ≤ 100000000 := by
  have h1 : n * (1 + b) ≤ (n + 1) * (2 * B + 4) := Nat.mul_le_mul (by omega) (by omega)
  have := big.nx
  omega

/-- What holds of the state whenever a search goes on. -/
structure Going (n : Nat) (l : List Cl) (bud : Int) (b : Nat) (S : St) : Prop where
  inv : Inv n l l S.ln S
  ln : (S.ln.length : Int) ≤ bud
  nc : S.nc ≤ l.length + S.ln.length
  nx : S.nx.length ≤ n * (1 + b)

def boxO (L : Lay) : O := .cells [.lp L.s 0]
def loopO (T : Nat → V) (asg body : Code) (st : LoopState) : O := .loop T 32 #[6] asg body st none

/-- The rounds of a search. -/
theorem rounds_calls {B : Nat} {T : Nat → V} {asg body : Code} (big : Big n l bud B) (g0 : Going n l bud (2 * S.ln.length) S) (hs : HS n bud L S h) (hT : ∀ p : Nat → Bool, p L.s = false → p h.length = false → ∀ i, (T i).drop p = T i) (hT1 : T 1 = .lp h.length 0)
    (hasg : ∀ lb f h Q, Q .normal (f.put (some 2) (f.t 6)) h → awp TE 32 (some lb) asg Q f h)
    (hbody : ∀ lb S' L' h' f1 (nn : Nat), Going n l bud (2 * S'.ln.length) S' → HS n bud L' S' h' → LX 0 L L' → L'.ro h.length = some (.e (boxO L)) → f1.t 1 = .lp h.length 0 → f1.t 2 = vi nn → 1 ≤ nn → nn ≤ 100000000 → f1.d = [] → DX L' f1.k → awpP TE 32 (some lb) body
      (fun xe f2 h2 => xe = .normal ∧ ∃ S2 L2, Going n l bud (2 * S2.ln.length) S2 ∧ S'.ln.length < S2.ln.length ∧ LX 0 L' L2 ∧ HS n bud L2 S2 h2 ∧ DX L' f2.k ∧ h'.length ≤ h2.length)
      (fun v f2 h2 => f2.d = [] ∧ ∃ S2 L2 res, v = .iface 53 (.agg [vi res]) ∧ Inv n l l S2.ln S2 ∧ (S2.ln.length : Int) ≤ bud ∧ Ends n l bud S2 res ∧ LX 0 L' L2 ∧ HS n bud L2 S2 h2 ∧ DX L' f2.k ∧ h'.length ≤ h2.length) f1 h')
    {R : AEnd → H → (Nat → Bool) → Prop}
    (hr : ∀ S' L' h' p res, Inv n l l S'.ln S' → (S'.ln.length : Int) ≤ bud → Ends n l bud S' res → LX 0 L L' → L'.ro (h.length + 1) = some (.e (.misc .dfd)) → p (h.length + 1) = false → HS n bud L' S' h' → DX L p → h.length + 3 ≤ h'.length → R (.pan (.iface 53 (.agg [vi res]))) h' p) :
    ACalls TE 64 [.yd (h.length + 2)] (h ++ [boxO L, .misc .dfd, loopO T asg body .ready]) R := by
  have hM : maxLen = 9223372036854775807 := rfl
  have hn := big.nn
  obtain ⟨id, eid⟩ : ∃ id, id = h.length + 2 := ⟨_, rfl⟩
  have no0 : ∀ i, h.length ≤ i → L.ro i = none := fun i hi => by
    cases e : L.ro i with
    | none => rfl
    | some r => have := hs.rlt _ _ e; omega
  have hA := hs.app [boxO L, .misc .dfd, loopO T asg body .ready]
  have pf : ∀ {M : Lay} {p : Nat → Bool} {q : Nat} {r : Ro}, (∀ q r, M.ro q = some r → p q = true → r = .t ∨ r = .l ∨ r = .x ∨ r = .g ∨ ∃ a, r = .w a) → M.ro q = some r → (r = .s ∨ ∃ o, r = .e o) → p q = false := fun {M p q r} hp hq hr => by
    cases e : p q with
    | false => rfl
    | true =>
      have := hp q r hq e
      rcases hr with rfl | ⟨o, rfl⟩ <;> simp at this
  obtain ⟨L1, eL1⟩ : ∃ M, M = layE L h.length (boxO L) := ⟨_, rfl⟩
  have x1 : LX 0 L L1 := eL1 ▸ layE_LX (no0 _ (Nat.le_refl _))
  have hX1 : HS n bud L1 S (h ++ [boxO L, .misc .dfd, loopO T asg body .ready]) := by
    rw [eL1]
    refine hA.layE (no0 _ (Nat.le_refl _)) (by simp) (fun p hp => ?_)
    have := pf hp ((layE_LX (m := 0) (no0 _ (Nat.le_refl _))).ro _ _ hs.rs) (.inl rfl)
    simp only [boxO, O.drop, V.drops, V.drop, this, if_false, Bool.false_eq_true]
  have hb1 : L1.ro h.length = some (.e (boxO L)) := by rw [eL1]; exact if_pos rfl
  have no1 : ∀ i, h.length + 1 ≤ i → L1.ro i = none := fun i hi => by
    rw [eL1]
    show (if i = h.length then _ else L.ro i) = none
    rw [if_neg (by omega)]; exact no0 i (by omega)
  obtain ⟨L2, eL2⟩ : ∃ M, M = layE L1 (h.length + 1) (.misc .dfd) := ⟨_, rfl⟩
  have x2 : LX 0 L1 L2 := eL2 ▸ layE_LX (no1 _ (Nat.le_refl _))
  have hX2 : HS n bud L2 S (h ++ [boxO L, .misc .dfd, loopO T asg body .ready]) := by
    rw [eL2]
    exact hX1.layE (no1 _ (Nat.le_refl _)) (by simp) (fun p hp => rfl)
  have hb2 : L2.ro (h.length + 1) = some (.e (.misc .dfd)) := by rw [eL2]; exact if_pos rfl
  have no2 : L2.ro id = none := by
    rw [eL2]
    show (if id = h.length + 1 then _ else L1.ro id) = none
    rw [if_neg (by omega)]; exact no1 id (by omega)
  have extL : ∀ (M : Lay) (st : LoopState), LX 0 L M → M.ro h.length = some (.e (boxO L)) → Ext M (loopO T asg body st) := fun M st xm hm p hp => by
    have q1 := pf hp (xm.ro _ _ hs.rs) (.inl rfl)
    have q2 := pf hp hm (.inr ⟨_, rfl⟩)
    show O.loop (fun i => (T i).drop p) 32 #[6] asg body st none = _
    rw [show (fun i => (T i).drop p) = T from funext (hT p q1 q2)]; rfl
  obtain ⟨L3, eL3⟩ : ∃ M, M = layE L2 id (loopO T asg body .ready) := ⟨_, rfl⟩
  have x3 : LX 0 L2 L3 := eL3 ▸ layE_LX no2
  have x03 : LX 0 L L3 := (x1.trans x2).trans x3
  have hX3 : HS n bud L3 S (h ++ [boxO L, .misc .dfd, loopO T asg body .ready]) := by
    rw [eL3]
    have x03' : LX 0 L (layE L2 id (loopO T asg body .ready)) := eL3 ▸ x03
    exact hX2.layE no2 (by rw [eid]; simp) (extL _ _ x03' ((layE_LX (m := 0) no2).ro _ _ (x2.ro _ _ hb1)))
  have hb3 : L3.ro id = some (.e (loopO T asg body .ready)) := by rw [eL3]; exact if_pos rfl
  have hbx : L3.ro h.length = some (.e (boxO L)) := x3.ro _ _ (x2.ro _ _ hb1)
  have hbd : L3.ro (h.length + 1) = some (.e (.misc .dfd)) := x3.ro _ _ hb2
  rw [← eid]
  refine ACalls.of_awp Try.func64 rfl (by simp [nts]) (vc_ok mixed _ _ _ _ ?_)
  simp only [sz.down, Nat.reduceLT, TEP, nts, Try.results64]
  refine awp_loop (fun m f' h' => ∃ (S' : St) (L' : Lay) (i : Nat), m = B - S'.ln.length ∧ Going n l bud (2 * S'.ln.length) S' ∧ LX 0 L3 L' ∧ HS n bud L' S' h' ∧ f'.t 0 = .yd id ∧ f'.t 2 = vi i ∧ 1 ≤ i ∧ i ≤ S'.ln.length + 1 ∧ f'.d = [] ∧ DX L3 f'.k ∧ h.length + 3 ≤ h'.length) (B - S.ln.length)
    ⟨S, L3, 1, rfl, g0, LX.refl _ _, hX3, by simp only [sz.down, ↓reduceIte, reduceCtorEq], by simp only [sz.down, ↓reduceIte]; try rfl, Nat.le_refl _, by omega, by simp only [sz.down]; try rfl, DX.none _, by simp⟩ ?_
  rintro m f1 h1 ⟨S1, L', i, hm, g1, x4, hs1, f0, f2, hi1, hi2, fd, fk, hl1⟩
  have hbl := big.few S1 g1.inv g1.ln
  have hnx := big.nx
  have hnc := big.nc
  obtain ⟨k, hk1, hk2⟩ := lub_pow i i hi1 (Nat.le_refl _)
  have hlub : lubV i = ((2 ^ k : Nat) : Int) := by
    unfold lubV
    rw [if_neg (by omega), Int.toNat_natCast, hk1]
  have hkp := Nat.two_pow_pos k
  have hw : IntKind.i64.wrap (32 * ((2 ^ k : Nat) : Int)) = ((32 * 2 ^ k : Nat) : Int) := by rw [wrap64 (by omega) (by omega)]; omega
  have hw2 : IntKind.i64.wrap ((i : Int) + 1) = ((i + 1 : Nat) : Int) := by rw [wrap64 (by omega) (by omega)]; omega
  refine awp_seq (awp_seq ?_)
  refine awp_list ?_
  refine awpL_vc rfl rfl ?_
  simp only [sz.down, TEP, f0]
  refine awpL_vc rfl rfl ?_
  simp only [sz.down, ↓reduceIte, Nat.reduceEqDiff, TEP, f2]
  refine awpL_vc rfl rfl ?_
  simp only [sz.down, ↓reduceIte, TEP, ens]
  refine ACalls.ev (luby_ev _) (by simp only [sz.down]) ?_
  simp only [sz.down]
  refine awpL_vc rfl rfl ?_
  simp only [sz.down, ↓reduceIte, TEP, hlub, hw]
  have hLo := (hs1.ext id _ (x4.ro _ _ hb3)).1
  refine awpL_op rfl rfl ?_
  refine eff_yieldP rfl rfl (id := id) (t := T) (n' := 32) (ps := #[6]) (asg := asg) (body := body) (by simp only [sz.down, ↓reduceIte, Nat.reduceEqDiff]) ?_ hLo rfl (by decide) ?_
  · simp only [sz.down, ↓reduceIte, Nat.reduceEqDiff]
  intro lb
  have hbx1 : L'.ro h.length = some (.e (boxO L)) := x4.ro _ _ hbx
  have hid1 : L'.ro id = some (.e (loopO T asg body .ready)) := x4.ro _ _ hb3
  have x04 : LX 0 L L' := x03.trans x4
  have hsB := hs1.re hid1 (extL L' .busy x04 hbx1)
  have hne : h.length ≠ id := by omega
  have hbxB : (reE L' id (loopO T asg body .busy)).ro h.length = some (.e (boxO L)) := (reE_ne hne).trans hbx1
  have xLB : LX 0 L (reE L' id (loopO T asg body .busy)) := ⟨x04.s, x04.v, x04.m, x04.t, x04.l, x04.x, x04.g, x04.c, x04.w, fun q r hq => by
    rw [reE_ne (fun e => by rw [e, no0 id (by omega)] at hq; cases hq)]; exact x04.ro q r hq⟩
  refine hasg lb _ _ _ ⟨rfl, rfl, T, hLo, ?_⟩
  refine awpP_mono ?_ ?_ (hbody lb S1 _ _ _ (32 * 2 ^ k) g1 hsB xLB hbxB ?_ ?_ (by omega) (by omega) rfl (DX.none _))
  · rintro xe f3 h3 ⟨rfl, S2, M2, g2, hlt, x5, hs2, dx2, hl2⟩
    have hid2 : M2.ro id = some (.e (loopO T asg body .busy)) := x5.ro _ _ reE_at
    have hbx2 : M2.ro h.length = some (.e (boxO L)) := x5.ro _ _ hbxB
    have k3 : f3.k id = false := dx2.e reE_at
    have hsR := hs2.re hid2 (extL M2 .ready (xLB.trans x5) hbx2)
    have x6 : LX 0 L' (reE M2 id (loopO T asg body .ready)) := ⟨x5.s, x5.v, x5.m, x5.t, x5.l, x5.x, x5.g, x5.c, x5.w, fun q r hq => by
      by_cases he : q = id
      · subst he; rw [reE_at, ← hq, hid1]
      · rw [reE_ne he]; exact x5.ro q r (by rw [reE_ne he]; exact hq)⟩
    have hl2' : h.length + 3 ≤ h3.length := by rw [List.length_set] at hl2; omega
    refine ⟨rfl, ⟨k3, fun q hq => ?_⟩, T, .busy, (hs2.ext id _ hid2).1, awpL_nil ?_⟩
    · have hq : q ∈ f1.d := hq
      rw [fd] at hq; cases hq
    show awp _ _ _ _ _ _ _
    refine vc_ok mixed _ _ _ _ ?_
    simp only [sz.down, ↓reduceIte]
    refine vc_ok mixed _ _ _ _ ?_
    simp only [sz.down, ↓reduceIte, Nat.reduceEqDiff, Nat.reduceLT, TEP, f2, hw2]
    exact .inl ⟨B - S2.ln.length, by have := big.few S2 g2.inv g2.ln; omega, S2, _, i + 1, rfl, g2, x4.trans x6, hsR, by simp only [sz.down, ↓reduceIte, reduceCtorEq, k3, f0], by simp only [sz.down, ↓reduceIte], by omega, by omega, by simp only [sz.down, fd], fk.or (((dx2.re hid1)).back x4.ro), by rw [List.length_set]; exact hl2'⟩
  · rintro v f3 h3 ⟨fd3, S2, M2, res, rfl, i2, hb2', he2, x5, hs2, dx2, hl2⟩
    have hl2' : h.length + 3 ≤ h3.length := by rw [List.length_set] at hl2; omega
    refine ⟨fd3, fun q hq => ?_, ?_⟩
    · have hq : q ∈ f1.d := hq
      rw [fd] at hq; cases hq
    have hne1 : h.length + 1 ≠ id := by omega
    have hbd2 : (reE L' id (loopO T asg body .busy)).ro (h.length + 1) = some (.e (.misc .dfd)) := (reE_ne hne1).trans (x4.ro _ _ hbd)
    have k1 : f1.k (h.length + 1) = false := fk.e hbd
    have k3 : f3.k (h.length + 1) = false := dx2.e hbd2
    show (match shutAll f1.d h3 with | some h' => R (.pan _) h' (fun q => f1.k q || f3.k q) | none => False)
    rw [fd]
    exact hr S2 M2 h3 _ res i2 hb2' he2 (xLB.trans x5) (x5.ro _ _ hbd2) (by rw [k1, k3]; rfl) hs2 ((fk.back x03.ro).or (dx2.back xLB.ro)) hl2'
  · simp only [sz.down, ↓reduceIte, Nat.reduceEqDiff, hT1]
  · simp only [sz.down, ↓reduceIte]

end

end Go.Proofs.Ytajcfppemkdomaa

set_option linter.unusedVariables false
set_option linter.unusedSimpArgs false
set_option linter.unnecessarySimpa false
namespace Go.Proofs.Ytajcfppemkdomaa
open Go Go.Proofs Go.Abs

section
variable {n : Nat} {bud : Int} {L : Lay} {S : St} {h : H} {a : Int} {j : Nat} {l d Lc : List Cl}

set_option maxHeartbeats 4000000 in
theorem search_calls {B : Nat} (big : Big n l bud B) (hs : HS n bud L S h) (hcl : ∀ c ∈ l, ∀ a ∈ c, a ≠ 0 ∧ a.natAbs ≤ n) (g0 : Going n l bud (2 * S.ln.length) S) {R : AEnd → H → (Nat → Bool) → Prop}
    (hr : ∀ S' L' h' p res, Inv n l l S'.ln S' → (S'.ln.length : Int) ≤ bud → Ends n l bud S' res → LX 0 L L' → HS n bud L' S' h' → DX L p → h.length ≤ h'.length → R (.pan (.iface 53 (.agg [vi res]))) h' p) : ACalls TE 24 [.lp L.s 0] h R := by
  have hM : maxLen = 9223372036854775807 := rfl
  have hn := big.nn
  
  refine ACalls.of_awp Try.func24 rfl (by simp [nts]) ?_
  refine awp_seq (vc_ok mixed _ _ _ _ ?_)
  simp only [sz.down, Nat.reduceLT, TEP, nts, Try.results24]
  refine awp_seq (vc_ok mixed _ _ _ _ ?_)
  simp only [sz.down, Nat.reduceLT, TEP, ens]
  refine restarts_calls ?_
  simp only [sz.down]
  refine awp_block ?_
  refine awp_rangeFunc (q := 64) (first := []) (captured := []) (by simp only [sz.down, ↓reduceIte]) (by simp only [sz.down, ↓reduceIte]) (by simp only [sz.down, TEP, ens]) ?_
  have e1 : ([] ++ [V.yd ((h ++ [O.cells [V.lp L.s 0]]).length + 1)] ++ []) = [V.yd (h.length + 2)] := by simp
  have e2 : (h ++ [O.cells [V.lp L.s 0]]).length = h.length + 1 := by simp
  rw [e1, List.append_assoc, List.append_assoc]
  have hT : ∀ p : Nat → Bool, p L.s = false → p h.length = false → ∀ i, ((((Fr.init [V.lp L.s 0]).put (some 1) (V.lp h.length 0)).put (some 5) (V.fn (Fn.func 64) [] [])).t i).drop p = (((Fr.init [V.lp L.s 0]).put (some 1) (V.lp h.length 0)).put (some 5) (V.fn (Fn.func 64) [] [])).t i := fun p q1 q2 i => by
    simp only [Fr.put, Fr.init]
    split
    · simp only [V.drop, V.drops]
    · split
      · simp only [V.drop, q2, if_false, Bool.false_eq_true]
      · match i with
        | 0 => simp only [List.getD_cons_zero, V.drop, q1, if_false, Bool.false_eq_true]
        | i + 1 => simp [V.drop, V.drops, undefV]
  refine rounds_calls big g0 hs hT (by simp only [sz.down, ↓reduceIte, Nat.reduceEqDiff]; try rfl) ?_ ?_ ?_
  · intro lb f h Q hq
    refine vc_ok mixed _ _ _ _ ?_
    simp only [sz.down, Nat.reduceLT, TEP]
    exact hq
  · intro lb S1 L1 h1 f1 nn g1 hs1 x1 hbx ft1 ft2 hn1 hn2 fd dx
    have hsol1 := hs1.sol
    have hbox1 := (hs1.ext _ _ hbx).1
    have es1 : L1.s = L.s := x1.s
    have hbox1 : h1[h.length]? = some (.cells [.lp L1.s 0]) := by rw [es1]; exact hbox1
    have hB1 := big.few S1 g1.inv g1.ln
    have hnx := big.nx
    have hncb := big.nc
    refine awpP_block ?_
    refine awpP_seq (awpP_of_awp ?_)
    refine vc_ok mixed _ _ _ _ ?_
    simp only [sz.down, ↓reduceIte, Nat.reduceLT, Nat.reduceLeDiff, Nat.reduceAdd, TEP, tis, ft1, hbox1, hsol1, solcells]
    refine awpP_seq (awpP_block ?_)
    refine awpP_loop 2 (fun m f2 h2 => ∃ (S2 : St) (L2 : Lay), m = (B - S2.ln.length) * (n + 2) + (n + 1 - S2.lv.length) ∧ Going n l bud (S1.ln.length + S2.ln.length) S2 ∧ S1.ln.length ≤ S2.ln.length ∧ LX 0 L1 L2 ∧ HS n bud L2 S2 h2 ∧ f2.t 1 = .lp h.length 0 ∧ f2.t 2 = vi nn ∧ f2.t 3 = vi S1.ln.length ∧ f2.d = [] ∧ DX L1 f2.k ∧ h1.length ≤ h2.length) ((B - S1.ln.length) * (n + 2) + (n + 1 - S1.lv.length))
      ⟨S1, L1, rfl, ⟨g1.inv, g1.ln, g1.nc, nx_le g1.nx (by omega)⟩, Nat.le_refl _, LX.refl _ _, hs1, by simp only [sz.down, ↓reduceIte, Nat.reduceEqDiff, ft1], by simp only [sz.down, ↓reduceIte, Nat.reduceEqDiff, ft2], by simp only [sz.down, ↓reduceIte]; try rfl, by simp only [sz.down, fd], dx, Nat.le_refl _⟩ ?_
    rintro m f2 h2 ⟨S2, L2, hm, g2, hle, x2, hs2, e1, e2, e3, ed, ek, hl2⟩
    have hsol2 := hs2.sol
    have es2 : L2.s = L1.s := x2.s
    have hbx2 : L2.ro h.length = some (.e (boxO L)) := x2.ro _ _ hbx
    have hbox2 : h2[h.length]? = some (.cells [.lp L2.s 0]) := by rw [es2, es1]; exact (hs2.ext _ _ hbx2).1
    have hB2 := big.few S2 g2.inv g2.ln
    have hwa : IntKind.i64.wrap ((S1.ln.length : Int) + (nn : Int)) = ((S1.ln.length + nn : Nat) : Int) := by rw [wrap64 (by omega) (by omega)]; omega
    by_cases hlt : S2.ln.length < S1.ln.length + nn
    · have eb : decide ((S2.ln.length : Int) < ((S1.ln.length + nn : Nat) : Int)) = true := by rw [decide_eq_true_eq]; omega
      refine awpP_seq (awpP_of_awp ?_)
      refine vc_ok mixed _ _ _ _ ?_
      simp only [sz.down, ↓reduceIte, Nat.reduceEqDiff, Nat.reduceLT, Nat.reduceLeDiff, Nat.reduceAdd, reduceCtorEq, TEP, tis, e1, e2, e3, hbox2, hsol2, solcells, hwa, eb]
      refine awpP_block ?_
      refine awpP_seq (awpP_of_awp ?_)
      refine vc_ok mixed _ _ _ _ ?_
      simp only [sz.down, ↓reduceIte, Nat.reduceEqDiff, Nat.reduceLT, reduceCtorEq, TEP, tis, ens, e1, hbox2]
      refine prop_calls hs2 hn (by have := g2.nc; omega) g2.inv (fun S3 L3 h3 p i3 pr3 hh3 x3 hs3 hl3 dr3 => ?_) (fun S3 L3 h3 p j i3 pr3 hj3 hf3 ht3 x3 hs3 hl3 dr3 => ?_)
      · have dx3 : DX L2 p := DX.dr x3 hs2 dr3
        have p1 := dx3.e hbx2
        have p2 := dx3.s hs2.toHR
        have hbx3 : L3.ro h.length = some (.e (boxO L)) := x3.ro _ _ hbx2
        have es3 : L3.s = L2.s := x3.s
        have hbox3 : h3[h.length]? = some (.cells [.lp L3.s 0]) := by rw [es3, es2, es1]; exact (hs3.ext _ _ hbx3).1
        simp only [sz.down, ↓reduceIte, Nat.reduceLT, TEP, callK_p, ed]
        refine awpP_seq (awpP_of_awp ?_)
        refine vc_ok mixed _ _ _ _ ?_
        simp only [sz.down, ↓reduceIte, Nat.reduceLT, TEP, tis]
        refine awpP_cond (b := false) (by simp only [sz.down, ↓reduceIte]) (by simp only [sz.down, ↓reduceIte]; rfl) (fun h => by cases h) (fun _ => ?_)
        refine awpP_region ?_
        simp only [sz.down, ↓reduceIte, Nat.reduceEqDiff, Nat.reduceLT, reduceCtorEq, TEP, tis, ens, vcOpsP, vcCallP, e1, p1, hbox3]
        refine decide_calls hs3 hn i3 hh3 (by rw [pr3.nx]; exact big.nx_big g2.nx (by omega)) (fun h4 i4 hs4 hl4 => ?_) (fun nx a h4 p4 i4 hnx4 hs4 hl4 hp4 => ?_)
        · simp only [sz.down, callKP, ed]
          refine ⟨nxS S3 [], L3, 1, rfl, by rw [show (nxS S3 []).ln = S2.ln from pr3.ln]; exact i4, by rw [show (nxS S3 []).ln = S2.ln from pr3.ln]; exact g2.ln, .inr (.inl ⟨rfl, Inv.some i4 hh3 rfl hcl⟩), x2.trans (x3.mono (Nat.zero_le _)), hs4, ?_, by omega⟩
          exact fun q r hq hpq => (ek.or (dx3.back x2.ro)) q r hq (by simpa using hpq)
        · have dx4 : DX L3 p4 := fun q r hq hpq => by
            rcases hp4 q hpq with h | h
            · subst h; rw [hs3.rl] at hq; cases hq; exact .inr (.inl rfl)
            · subst h; rw [hs3.rt] at hq; cases hq; exact .inl rfl
          have q1 := dx4.e hbx3
          simp only [sz.down, ↓reduceIte, Nat.reduceEqDiff, callKP, ed, e1, e2, e3, p1, q1]
          have elv : (decS (nxS S3 nx) a).lv = S2.lv ++ [S3.tr.length] := by
            show S3.lv ++ [S3.tr.length] = _
            rw [pr3.lv]
          have hlvn : (decS (nxS S3 nx) a).lv.length ≤ n := Nat.le_trans (nodup_le (i4.t.lvs.imp fun h => by omega) fun x hx => i4.lt x hx) i4.t.len
          have eln : (decS (nxS S3 nx) a).ln = S2.ln := pr3.ln
          have hlen : (decS (nxS S3 nx) a).lv.length = S2.lv.length + 1 := by rw [elv]; simp
          refine .inl ⟨(B - S2.ln.length) * (n + 2) + (n + 1 - (S2.lv.length + 1)), by omega, decS (nxS S3 nx) a, L3, by rw [eln, hlen], ⟨by rw [eln]; exact i4, by rw [eln]; exact g2.ln, by rw [eln]; exact pr3.nc ▸ g2.nc, ?_⟩, by rw [eln]; exact hle, x2.trans (x3.mono (Nat.zero_le _)), hs4, ?_, by omega⟩
          · rw [eln]
            show nx.length ≤ _
            have := g2.nx
            rw [pr3.nx] at hnx4
            omega
          · exact fun q r hq hpq => ((ek.or (dx3.back x2.ro)).or (dx4.back (x2.trans (x3.mono (Nat.zero_le _))).ro)) q r hq (by simpa using hpq)
      · have dx3 : DX L2 p := DX.dr x3 hs2 dr3
        have p1 := dx3.e hbx2
        have p2 := dx3.s hs2.toHR
        have hbx3 : L3.ro h.length = some (.e (boxO L)) := x3.ro _ _ hbx2
        have es3 : L3.s = L2.s := x3.s
        have hbox3 : h3[h.length]? = some (.cells [.lp L3.s 0]) := by rw [es3, es2, es1]; exact (hs3.ext _ _ hbx3).1
        have ecl : clV L3 S3 j = .ls (L3.c j) 1 0 (S3.cl j).length (S3.cl j).length := rfl
        have hc2 : 0 < (S3.cl j).length := by have := i3.c.c2 j hj3; omega
        simp only [sz.down, ↓reduceIte, Nat.reduceLT, TEP, callK_p, ed]
        refine awpP_seq (awpP_of_awp ?_)
        refine vc_ok mixed _ _ _ _ ?_
        simp only [sz.down, ↓reduceIte, Nat.reduceLT, TEP, tis, ecl]
        intro b hb
        have hb : b = false := by
          cases b with
          | false => rfl
          | true => have := hb rfl; omega
        subst hb
        simp only [sz.down]
        refine awpP_cond (b := true) (by simp only [sz.down, ↓reduceIte]) (by simp only [sz.down, ↓reduceIte]; rfl) (fun _ => ?_) (fun h => by cases h)
        refine awpP_region ?_
        simp only [sz.down, ↓reduceIte, Nat.reduceEqDiff, Nat.reduceLT, reduceCtorEq, TEP, tis, ens, vcOpsP, vcCallP, e1, p1, hbox3]
        rw [← ecl]
        have i3' : Inv n l l S3.ln S3 := by rw [pr3.ln]; exact i3
        have hB3 : S3.ln.length ≤ B := by rw [pr3.ln]; exact hB2
        refine conflict_calls hs3 hn i3' hj3 hf3 ht3 (by have := g2.nc; rw [pr3.nc]; omega) (by rw [pr3.nx]; exact big.nx_big g2.nx (by omega)) (by omega) (fun hlv => ?_) (fun hbd => ?_) (fun S4 L4 h4 p4 out hbd i4 eln4 hnx4 hnc4 x4 hs4 hl4 dx4 => ?_)
        · simp only [sz.down, callKP, ed]
          refine ⟨S3, L3, 0, rfl, i3', by rw [pr3.ln]; exact g2.ln, .inl ⟨rfl, Inv.none i3' hlv hj3 hf3⟩, x2.trans (x3.mono (Nat.zero_le _)), hs3, ?_, by omega⟩
          exact fun q r hq hpq => (ek.or (dx3.back x2.ro)) q r hq (by simpa using hpq)
        · simp only [sz.down, callKP, ed]
          refine ⟨S3, L3, 2, rfl, i3', by rw [pr3.ln]; exact g2.ln, .inr (.inr ⟨rfl, by have := g2.ln; rw [pr3.ln] at hbd ⊢; omega⟩), x2.trans (x3.mono (Nat.zero_le _)), hs3, ?_, by omega⟩
          exact fun q r hq hpq => (ek.or (dx3.back x2.ro)) q r hq (by simpa using hpq)
        · have q1 := dx4.e hbx3
          simp only [sz.down, ↓reduceIte, Nat.reduceEqDiff, callKP, ed, e1, e2, e3, p1, q1]
          have e4 : S4.ln.length = S2.ln.length + 1 := by rw [eln4, pr3.ln]; simp
          have hb4 : (S4.ln.length : Int) ≤ bud := by rw [pr3.ln] at hbd; omega
          have hB4 := big.few S4 i4 hb4
          have emul : (B - S2.ln.length) * (n + 2) = (B - S4.ln.length) * (n + 2) + (n + 2) := by
            rw [show B - S2.ln.length = (B - S4.ln.length) + 1 by omega, Nat.succ_mul]
          refine .inl ⟨(B - S4.ln.length) * (n + 2) + (n + 1 - S4.lv.length), by omega, S4, L4, rfl, ⟨i4, hb4, by have := g2.nc; rw [pr3.nc] at hnc4; omega, ?_⟩, by omega, (x2.trans (x3.mono (Nat.zero_le _))).trans (x4.mono (Nat.zero_le _)), hs4, ?_, by omega⟩
          · rw [e4]
            rw [pr3.nx] at hnx4
            exact nx_add g2.nx hnx4
          · exact fun q r hq hpq => ((ek.or (dx3.back x2.ro)).or (dx4.back (x2.trans (x3.mono (Nat.zero_le _))).ro)) q r hq (by simpa using hpq)
    · have eb : decide ((S2.ln.length : Int) < ((S1.ln.length + nn : Nat) : Int)) = false := by rw [decide_eq_false_iff_not]; omega
      refine awpP_seq (awpP_of_awp ?_)
      refine vc_ok mixed _ _ _ _ ?_
      simp only [sz.down, ↓reduceIte, Nat.reduceEqDiff, Nat.reduceLT, Nat.reduceLeDiff, Nat.reduceAdd, reduceCtorEq, TEP, tis, e1, e2, e3, ed, hbox2, hsol2, solcells, hwa, eb]
      refine .inr ?_
      refine awpP_of_awp ?_
      refine vc_ok mixed _ _ _ _ ?_
      simp only [sz.down, ↓reduceIte, Nat.reduceEqDiff, Nat.reduceLT, TEP, tis, ens, e1, hbox2]
      by_cases hlv : S2.lv = []
      · refine back_none hs2 (k := 0) (by rw [hlv]; exact Nat.le_refl _) (by omega) ?_
        simp only [sz.down, reduceCtorEq]
        exact ⟨S2, L2, ⟨g2.inv, g2.ln, g2.nc, nx_le g2.nx (by omega)⟩, by omega, x2, hs2, ek, hl2⟩
      · have hk0 : 0 < S2.lv.length := List.length_pos_iff.2 hlv
        have hb0 : S2.lv.getD 0 0 ≤ S2.tr.length := by
          rw [getD_of hk0]
          have h1 := g2.inv.t.lvh _ (List.getElem_mem hk0)
          have h2 := g2.inv.t.hdl
          omega
        have htl2 := g2.inv.t.len
        have hlvt : S2.lv.length ≤ S2.tr.length := nodup_le (g2.inv.t.lvs.imp fun h => by omega) fun x hx => g2.inv.lt x hx
        have hnx2 := big.nx_big g2.nx (by omega)
        refine back_calls hs2 hn hk0 rfl hb0 (by omega) (by omega) g2.inv.t.nd (fun a ha => (g2.inv.t.rng a ha).2) (by omega) fun nx h3 p3 hp3 hs3 hl3 hd3 => ?_
        simp only [sz.down, reduceCtorEq, callK_p, ed]
        have hln3 : nx.length ≤ S2.nx.length + n := by
          have := hp3.length_eq
          rw [List.length_append, List.length_map, List.length_drop] at this
          omega
        have i3 : Inv n l l S2.ln (backS S2 0 nx) := inv_backS g2.inv hk0 (fun x hx => hp3.mem_iff.2 (List.mem_append_left _ hx)) (fun a ha => hp3.mem_iff.2 (List.mem_append_right _ (List.mem_map.2 ⟨a, ha, rfl⟩))) (fun x hx => by
          rcases List.mem_append.1 (hp3.mem_iff.1 hx) with hx | hx
          · exact .inl hx
          · obtain ⟨a, ha, rfl⟩ := List.mem_map.1 hx
            exact .inr ⟨a, ha, rfl⟩)
        have dx3 : DX L2 p3 := fun q r hq hpq => by
          have := hd3 q hpq
          subst this
          rw [hs2.rx] at hq; cases hq
          exact .inr (.inr (.inl rfl))
        exact ⟨backS S2 0 nx, L2, ⟨i3, g2.ln, g2.nc, nx_le (nx_add g2.nx hln3) (by show S1.ln.length + S2.ln.length + 1 ≤ 2 * S2.ln.length; omega)⟩, by show S1.ln.length < S2.ln.length; omega, x2, hs3, ek.or (dx3.back x2.ro), by omega⟩
  · intro S2 M h2 p res i2 hb2 he2 x2 hrd hp hs2 dx2 hl2
    unfold rangeK
    rw [e2]
    refine ⟨fun i hi => ?_, ?_⟩
    · have hi : i ∈ [h.length + 1] := hi
      rw [List.mem_singleton.1 hi]; exact hp
    show (match shutAll [h.length + 1] h2 with | some h' => R (.pan _) h' (fun q => false || p q) | none => False)
    have hg := (hs2.ext _ _ hrd).1
    unfold shutAll
    rw [hg]
    have no1 : L.ro (h.length + 1) = none := by
      cases e : L.ro (h.length + 1) with
      | none => rfl
      | some r => have := hs.rlt _ _ e; omega
    have xr : LX 0 L (reE M (h.length + 1) (.misc .shut)) := ⟨x2.s, x2.v, x2.m, x2.t, x2.l, x2.x, x2.g, x2.c, x2.w, fun q r hq => by
      rw [reE_ne (fun e => by rw [e, no1] at hq; cases hq)]; exact x2.ro q r hq⟩
    exact hr S2 _ _ _ res i2 hb2 he2 xr (hs2.re hrd fun p hp => rfl) (fun q r hq hpq => dx2 q r hq (by simpa using hpq)) (by rw [List.length_set]; omega)
end

end Go.Proofs.Ytajcfppemkdomaa
