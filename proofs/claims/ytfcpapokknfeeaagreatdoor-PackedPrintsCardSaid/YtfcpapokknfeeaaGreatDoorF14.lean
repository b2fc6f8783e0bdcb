/- Lemmas for the statement of this claim, part F14: they hold with no conditions but those that each one names. -/
import Derived.Test.YtfcpapokknfeeaaGreatDoorF13
import Derived.Test.YtfcpapokknfeeaaGreatDoorA12
import Derived.Test.YtfcpapokknfeeaaGreatDoorF11
set_option linter.unusedVariables false
set_option maxRecDepth 20000
set_option linter.unusedSimpArgs false
set_option linter.unnecessarySimpa false
namespace Go.Proofs.YtfcpapokknfeeaaGreatDoor
open Go Go.Proofs Go.Abs
theorem ziI {g : Gr} {v : List Bool} {n : Nat} (h : n < (g.next ++ g.outs).length) : zdS g v (n + 1) = zdb (zdS g v n) (g.next ++ g.outs)[n] := by
 unfold zdS
 rw [List.take_add_one, List.getElem?_eq_getElem h, List.foldl_append]
 rfl
theorem zpb {v : List Bool} {k : Nat} (h : k < v.length) : (v.map V.bool).take k ++ [V.bool true] ++ (v.map V.bool).drop (k + 1) = (v.set k true).map V.bool := by
 rw [List.map_set, List.set_eq_take_append_cons_drop, if_pos (by simpa using h)]
 simp
def zpP : Plan := .take 2 <| .alt 0 (.alt 1 (.one 3 <| .one 4 <| .one 5 <| .one 6 <| .take 7 <| .fin) (.one 3 (.alt 1 (.one 4 <| .one 5 <| .one 6 <| .take 7 <| .fin) (.one 4 (.one 1 <| .one 5 <| .one 6 <| .take 7 <| .fin))))) (.one 3 (.alt 0 (.alt 1 (.one 4 <| .one 5 <| .one 6 <| .take 7 <| .fin) (.one 4 (.one 1 <| .one 5 <| .one 6 <| .take 7 <| .fin))) (.one 4 (.one 0 <| .one 1 <| .one 5 <| .one 6 <| .take 7 <| .fin))))
abbrev hRL (g : Gr) (v : List Bool) : H := [.cells [vi g.ins, zo g.next, zo g.init, prs g.ands, zo g.outs], .cells (v.map V.bool)]
set_option maxHeartbeats 8000000 in
theorem zq1 {g : Gr} (hg : g.chk = 0) : Ev TE 134 [g.v] (zjc (zer g)) := by
 have hM : maxLen = 9223372036854775807 := rfl
 obtain ⟨_, i0, i1, i2, i3, i4, i5⟩ := zI hg
 obtain ⟨r1, r2, r3, r4⟩ := zU i4
 have wf : g.first = 1 + g.ins + g.next.length := rfl
 have wa : g.all = 2 * (g.first + g.ands.length) := rfl
 have hfst := zb8 g (by omega) (by omega) (by omega)
 obtain ⟨n, hn⟩ : ∃ n, n = g.vars := ⟨_, rfl⟩
 have hnv : (n : Int) = g.first + g.ands.length := by rw [hn]; unfold Gr.vars; omega
 have wn : IntKind.i64.wrap (g.first + (g.ands.length : Int)) = (n : Int) := by rw [hnv]; exact zad (by omega) (by omega)
 have n2 : ((2 : Int) ≠ 0) := by decide
 have q1 : ∀ a : Int, 0 ≤ a → a ≤ 1000000 → IntKind.i64.wrap (a.tdiv 2) = a / 2 := fun a a0 a1 => by rw [Int.tdiv_eq_ediv_of_nonneg a0, zad (by omega) (by omega)]
 have dg : V.dats [.agg [vi g.ins, zo g.next, zo g.init, prs g.ands, zo g.outs]] = true := by simp only [V.dats, V.dat, Bool.and_self]
 have hvl : (List.replicate n false).length = n := List.length_replicate
 unfold zer
 rw [← hn]
 unfold Gr.v at hfst ⊢
 refine zh Tryz.func134 rfl (by simp [nts]) ?_
 refine za (vm ?_)
 simp only [wq.down, Nat.reduceLT, Tryz.results134]
 refine za (zM mixed zpP (fun f' h' => f'.t 1 = .lp 0 0 ∧ f'.t 3 = .ls 1 1 0 n n ∧ f'.d = [] ∧ h' = hRL g (List.replicate n false)) (by decide +kernel) (by decide +kernel) ?_ ?_)
 ·simp only [wq.down, seval, zpP]
  repeat' apply And.intro
  all_goals
   refine zb.ev hfst dg ?_
   simp only [wq.down, seval, wn]
   refine ⟨⟨by omega, by omega⟩, ?_⟩
   show _ = [O.cells _, O.cells _]
   rw [List.map_replicate]
 rintro f h ⟨t1, t3, hd, rfl⟩
 show awp _ _ _ _ _ _ _
 refine za (vm ?_)
 simp only [wq.down, Nat.reduceLT]
 refine zp (fun m f h => ∃ i, m + i = g.next.length ∧ f.t 1 = .lp 0 0 ∧ f.t 3 = .ls 1 1 0 n n ∧ f.t 4 = vi i ∧ f.d = [] ∧ h = hRL g (zdS g (List.replicate n false) i)) g.next.length ⟨0, by omega, by simp only [wq.down, seval, t1], by simp only [wq.down, seval, t3], rfl, by simp only [wq.down, hd], rfl⟩ ?_
 rintro m f h ⟨i, hm, t1, t3, t4, hd, rfl⟩
 refine za (vm ?_)
 simp only [wq.down, seval, t1, t4]
 refine vcB.mk (fun hlt => ?_) (fun hlt => ?_)
 ·simp only [decide_eq_true_eq, Int.ofNat_lt] at hlt
  have hg1 : (g.next.map vi).getD i .any = vi g.next[i] := zeL hlt _
  have hb := r3 _ (List.getElem_mem hlt)
  have hw := zi (show i < maxLen by omega)
  have hst := ziI (g := g) (v := List.replicate n false) (n := i) (by rw [List.length_append]; omega)
  rw [List.getElem_append_left hlt] at hst
  have hq := q1 g.next[i] (by omega) (by omega)
  obtain ⟨k, hk⟩ : ∃ k : Nat, g.next[i] / 2 = k := ⟨_, (Int.toNat_of_nonneg (a := g.next[i] / 2) (by omega)).symm⟩
  have hll : (zdS g (List.replicate n false) i).length = n := by rw [zdT, hvl]
  have hset := zpb (v := zdS g (List.replicate n false) i) (k := k) (by omega)
  rw [show (zdS g (List.replicate n false) i).set k true = zdS g (List.replicate n false) (i + 1) by rw [hst]; unfold zdb; rw [hk, Int.toNat_natCast]] at hset
  simp only [wq.down, ↓reduceIte, Nat.reduceEqDiff, Nat.reduceLT, Nat.reduceLeDiff, Nat.reduceAdd, Nat.reduceSub, Int.reduceToNat, Nat.reduceDiv, Int.reduceLT, Int.reduceLE, Int.reduceNeg, Int.reduceBEq, Int.reduceBNe, Int.reduceAdd, Int.reduceSub, Nat.reduceBEq, reduceCtorEq, Nat.reduceMul, zg, Tryz.results134]
  refine vm ?_
  simp only [wq.down, ↓reduceIte, Nat.reduceEqDiff, Nat.reduceLT, Nat.reduceLeDiff, Nat.reduceAdd, Nat.reduceSub, Int.reduceToNat, Nat.reduceDiv, Int.reduceLT, Int.reduceLE, Int.reduceNeg, Int.reduceBEq, Int.reduceBNe, Int.reduceAdd, Int.reduceSub, Nat.reduceBEq, reduceCtorEq, Nat.reduceMul, zg, Tryz.results134, t1, t3, t4, hd, hg1, hq, hk, hw, hset, Nat.mul_one, List.length_map, hll]
  refine ⟨⟨by omega, by omega⟩, n2, ⟨by omega, by omega⟩, by omega, ?_⟩
  exact .inl ⟨m - 1, by omega, i + 1, by omega, by simp only [wq.down, seval, t1], by simp only [wq.down, ↓reduceIte, Nat.reduceEqDiff, t3], rfl, by simp only [wq.down, hd], rfl⟩
 simp only [decide_eq_false_iff_not, Int.ofNat_lt] at hlt
 have : i = g.next.length := by omega
 subst this
 simp only [wq.down]
 refine za ?_
 refine vm ?_
 simp only [wq.down, Nat.reduceLT]
 refine zp (fun m f h => ∃ i, m + i = g.outs.length ∧ f.t 1 = .lp 0 0 ∧ f.t 3 = .ls 1 1 0 n n ∧ f.t 5 = vi i ∧ f.d = [] ∧ h = hRL g (zdS g (List.replicate n false) (g.next.length + i))) g.outs.length ⟨0, by omega, by simp only [wq.down, seval, t1], by simp only [wq.down, seval, t3], rfl, by simp only [wq.down, hd], rfl⟩ ?_
 clear t1 t3 t4 hd hlt hm
 rintro m f h ⟨i, hm, t1, t3, t5, hd, rfl⟩
 refine za (vm ?_)
 simp only [wq.down, seval, t1, t5]
 refine vcB.mk (fun hlt => ?_) (fun hlt => ?_)
 ·simp only [decide_eq_true_eq, Int.ofNat_lt] at hlt
  have hg1 : (g.outs.map vi).getD i .any = vi g.outs[i] := zeL hlt _
  have hb := r4 _ (List.getElem_mem hlt)
  have hw := zi (show i < maxLen by omega)
  have hst := ziI (g := g) (v := List.replicate n false) (n := g.next.length + i) (by rw [List.length_append]; omega)
  rw [List.getElem_append_right (by omega)] at hst
  simp only [Nat.add_sub_cancel_left] at hst
  have hq := q1 g.outs[i] (by omega) (by omega)
  obtain ⟨k, hk⟩ : ∃ k : Nat, g.outs[i] / 2 = k := ⟨_, (Int.toNat_of_nonneg (a := g.outs[i] / 2) (by omega)).symm⟩
  have hll : (zdS g (List.replicate n false) (g.next.length + i)).length = n := by rw [zdT, hvl]
  have hset := zpb (v := zdS g (List.replicate n false) (g.next.length + i)) (k := k) (by omega)
  rw [show (zdS g (List.replicate n false) (g.next.length + i)).set k true = zdS g (List.replicate n false) (g.next.length + i + 1) by rw [hst]; unfold zdb; rw [hk, Int.toNat_natCast]] at hset
  simp only [wq.down, ↓reduceIte, Nat.reduceEqDiff, Nat.reduceLT, Nat.reduceLeDiff, Nat.reduceAdd, Nat.reduceSub, Int.reduceToNat, Nat.reduceDiv, Int.reduceLT, Int.reduceLE, Int.reduceNeg, Int.reduceBEq, Int.reduceBNe, Int.reduceAdd, Int.reduceSub, Nat.reduceBEq, reduceCtorEq, Nat.reduceMul, zg, Tryz.results134]
  refine vm ?_
  simp only [wq.down, ↓reduceIte, Nat.reduceEqDiff, Nat.reduceLT, Nat.reduceLeDiff, Nat.reduceAdd, Nat.reduceSub, Int.reduceToNat, Nat.reduceDiv, Int.reduceLT, Int.reduceLE, Int.reduceNeg, Int.reduceBEq, Int.reduceBNe, Int.reduceAdd, Int.reduceSub, Nat.reduceBEq, reduceCtorEq, Nat.reduceMul, zg, Tryz.results134, t1, t3, t5, hd, hg1, hq, hk, hw, hset, Nat.mul_one, List.length_map, hll]
  refine ⟨⟨by omega, by omega⟩, n2, ⟨by omega, by omega⟩, by omega, ?_⟩
  exact .inl ⟨m - 1, by omega, i + 1, by omega, by simp only [wq.down, seval, t1], by simp only [wq.down, ↓reduceIte, Nat.reduceEqDiff, t3], rfl, by simp only [wq.down, hd], rfl⟩
 simp only [decide_eq_false_iff_not, Int.ofNat_lt] at hlt
 have : i = g.outs.length := by omega
 subst this
 obtain ⟨vS, hvS⟩ : ∃ vS, vS = zdS g (List.replicate n false) (g.next.length + g.outs.length) := ⟨_, rfl⟩
 have hvSl : vS.length = n := by rw [hvS, zdT, hvl]
 rw [← hvS]
 simp only [wq.down]
 refine za ?_
 have hw1 : IntKind.i64.wrap ((g.ands.length : Int) - 1) = (g.ands.length : Int) - 1 := zD (by omega) (by omega)
 refine vm ?_
 simp only [wq.down, seval, t1, hw1]
 refine zp (fun m f h => ∃ i, m + i = g.ands.length ∧ f.t 1 = .lp 0 0 ∧ f.t 3 = .ls 1 1 0 n n ∧ f.t 6 = vi ((g.ands.length : Int) - 1 - (i : Int)) ∧ f.d = [] ∧ h = hRL g (zdj g vS i)) g.ands.length ⟨0, by omega, by simp only [wq.down, seval, t1], by simp only [wq.down, seval, t3], by simp only [wq.down, ↓reduceIte]; rw [show (g.ands.length : Int) - 1 - ((0 : Nat) : Int) = (g.ands.length : Int) - 1 by omega], by simp only [wq.down, hd], rfl⟩ ?_
 clear t1 t3 t5 hd hlt hm
 rintro m f h ⟨i, hm, t1, t3, t6, hd, rfl⟩
 refine za (vm ?_)
 simp only [wq.down, seval, t6]
 refine vcB.mk (fun hlt => ?_) (fun hlt => ?_)
 ·simp only [decide_eq_true_eq] at hlt
  obtain ⟨p, hp⟩ : ∃ p, p = g.ands.length - 1 - i := ⟨_, rfl⟩
  have hpl : p < g.ands.length := by omega
  have hpi : (g.ands.length : Int) - 1 - (i : Int) = (p : Int) := by omega
  have hg1 := zcS hpl V.any
  obtain ⟨o1, o2, o3, o4⟩ := zal i5 hpl
  rw [hpi] at t6
  have hLs : zdj g vS (i + 1) = if (zdj g vS i).getD (g.first + (p : Int)).toNat false then zdb (zdb (zdj g vS i) g.ands[p].1) g.ands[p].2 else zdj g vS i := by
   simp only [zdj, ← hp, zw hpl]
  obtain ⟨v, hv⟩ : ∃ v, v = zdj g vS i := ⟨_, rfl⟩
  have hvl2 : v.length = n := by rw [hv, zc2, hvSl]
  rw [← hv] at hLs ⊢
  obtain ⟨q, hq⟩ : ∃ q : Nat, g.first + (p : Int) = q := ⟨_, (Int.toNat_of_nonneg (a := g.first + (p : Int)) (by omega)).symm⟩
  have hwq : IntKind.i64.wrap (g.first + (p : Int)) = (q : Int) := by rw [hq]; exact zD (by omega) (by omega)
  have hql : q < v.length := by omega
  have hgq : (v.map V.bool).getD q .any = .bool v[q] := ztc hql _
  rw [hq, Int.toNat_natCast, zw hql] at hLs
  have hwm : IntKind.i64.wrap ((p : Int) - 1) = (g.ands.length : Int) - 1 - ((i + 1 : Nat) : Int) := by rw [zD (by omega) (by omega)]; omega
  simp only [wq.down]
  refine za (zy ?_)
  refine za (vm ?_)
  simp only [wq.down, seval, t1, t3]
  refine zb.ev hfst dg ?_
  simp only [wq.down, seval, t6, hwq, hgq, Nat.mul_one, hvl2]
  refine ⟨⟨by omega, by omega⟩, by omega, ?_⟩
  have hq1 := q1 g.ands[p].1 (by omega) (by omega)
  have hq2 := q1 g.ands[p].2 (by omega) (by omega)
  obtain ⟨k1, hk1⟩ : ∃ k : Nat, g.ands[p].1 / 2 = k := ⟨_, (Int.toNat_of_nonneg (a := g.ands[p].1 / 2) (by omega)).symm⟩
  obtain ⟨k2, hk2⟩ : ∃ k : Nat, g.ands[p].2 / 2 = k := ⟨_, (Int.toNat_of_nonneg (a := g.ands[p].2 / 2) (by omega)).symm⟩
  refine zS (b := v[q]) (by simp only [wq.down, ↓reduceIte]) (by simp only [wq.down, ↓reduceIte, Nat.reduceEqDiff, Nat.reduceLT, Nat.reduceLeDiff, Nat.reduceAdd, Nat.reduceSub, Int.reduceToNat, Nat.reduceDiv, Int.reduceLT, Int.reduceLE, Int.reduceNeg, Int.reduceBEq, Int.reduceBNe, Int.reduceAdd, Int.reduceSub, Nat.reduceBEq, reduceCtorEq, Nat.reduceMul, zg, Tryz.results134]) (fun hb => ?_) (fun hb => ?_)
  ·rw [hb, if_pos rfl] at hLs
   have hset1 := zpb (v := v) (k := k1) (by omega)
   obtain ⟨v1, hv1⟩ : ∃ v1, v1 = v.set k1 true := ⟨_, rfl⟩
   have hv1l : v1.length = n := by rw [hv1, List.length_set, hvl2]
   rw [← hv1] at hset1
   have hset2 := zpb (v := v1) (k := k2) (by omega)
   have e2 : v1.set k2 true = zdj g vS (i + 1) := by
    rw [hLs, hv1]; unfold zdb; rw [hk1, hk2, Int.toNat_natCast, Int.toNat_natCast]
   rw [e2] at hset2
   refine za (vm ?_)
   simp only [wq.down, ↓reduceIte, Nat.reduceEqDiff, Nat.reduceLT, Nat.reduceLeDiff, Nat.reduceAdd, Nat.reduceSub, Int.reduceToNat, Nat.reduceDiv, Int.reduceLT, Int.reduceLE, Int.reduceNeg, Int.reduceBEq, Int.reduceBNe, Int.reduceAdd, Int.reduceSub, Nat.reduceBEq, reduceCtorEq, Nat.reduceMul, zg, Tryz.results134, t1, t3, t6, hd, hg1, hq1, hk1, hset1, Nat.mul_one, List.length_map, hvl2]
   refine ⟨⟨by omega, by omega⟩, by decide, n2, ⟨by omega, by omega⟩, by omega, ?_⟩
   refine vm ?_
   simp only [wq.down, ↓reduceIte, Nat.reduceEqDiff, Nat.reduceLT, Nat.reduceLeDiff, Nat.reduceAdd, Nat.reduceSub, Int.reduceToNat, Nat.reduceDiv, Int.reduceLT, Int.reduceLE, Int.reduceNeg, Int.reduceBEq, Int.reduceBNe, Int.reduceAdd, Int.reduceSub, Nat.reduceBEq, reduceCtorEq, Nat.reduceMul, zg, Tryz.results134, t1, t3, t6, hd, hg1, hq2, hk2, hset2, Nat.mul_one, List.length_map, hv1l]
   refine ⟨⟨by omega, by omega⟩, by decide, n2, ⟨by omega, by omega⟩, by omega, ?_⟩
   refine vm ?_
   simp only [wq.down, seval, t6, hwm]
   exact .inl ⟨m - 1, by omega, i + 1, by omega, by simp only [wq.down, seval, t1], by simp only [wq.down, seval, t3], rfl, by simp only [wq.down, hd], rfl⟩
  ·rw [hb, if_neg (by decide)] at hLs
   refine vm ?_
   simp only [wq.down]
   refine vm ?_
   simp only [wq.down, seval, t6, hwm]
   exact .inl ⟨m - 1, by omega, i + 1, by omega, by simp only [wq.down, seval, t1], by simp only [wq.down, seval, t3], rfl, by simp only [wq.down, hd], by rw [hLs]⟩
 simp only [decide_eq_false_iff_not] at hlt
 have : i = g.ands.length := by omega
 subst this
 simp only [wq.down]
 refine vm ?_
 simp only [wq.down, seval, t3, hd]
 exact zla rfl (by rw [zc2, hvSl])
def zpQ : Plan := .take 0 <| .take 3 <| .alt 1 (.alt 2 (.one 4 <| .one 5 <| .one 6 <| .one 7 <| .one 8 <| .one 9 <| .take 10 <| .fin) (.one 4 (.alt 2 (.one 5 <| .one 6 <| .one 7 <| .one 8 <| .one 9 <| .take 10 <| .fin) (.one 5 (.one 2 <| .one 6 <| .one 7 <| .one 8 <| .one 9 <| .take 10 <| .fin))))) (.one 4 (.alt 1 (.alt 2 (.one 5 <| .one 6 <| .one 7 <| .one 8 <| .one 9 <| .take 10 <| .fin) (.one 5 (.one 2 <| .one 6 <| .one 7 <| .one 8 <| .one 9 <| .take 10 <| .fin))) (.one 5 (.one 1 <| .one 2 <| .one 6 <| .one 7 <| .one 8 <| .one 9 <| .take 10 <| .fin))))
abbrev hRC (g : Gr) (A : List Pr) (C : Cl) : H := [.cells [vi g.ins, zo g.next, zo g.init, prs g.ands, zo g.outs], .cells [vi 0, .nils, .nils, .nils, .nils], .cells (C.map vi), .cells [vi g.ins, .nils, zo g.init, .ls 4 2 0 A.length A.length, .nils], .cells (fl A)]
theorem zfW {g : Gr} {use : Nat → Bool} : ∀ i, (zb4 g use i).1.length ≤ i
 | 0 => Nat.le_refl _
 | i + 1 => by
  have h := zfW (g := g) (use := use) i
  show (zeO g.first (use i) (zb4 g use i) _).1.length ≤ _
  unfold zeO
  dsimp only
  split
  ·rw [List.length_append, List.length_singleton]; omega
  ·omega
theorem zhn {g : Gr} (i0 : 0 ≤ g.ins) {use : Nat → Bool} : ∀ i, ∀ x ∈ (zb4 g use i).2, 0 ≤ x ∧ x ≤ 2 * (g.first + (i : Int))
 | 0, x, hx => by
  simp only [zb4, zaJ, List.mem_map, List.mem_range] at hx
  obtain ⟨k, hk, rfl⟩ := hx
  have := zO i0
  omega
 | i + 1, x, hx => by
  have h := zhn i0 (use := use) i
  have hl := zfW (g := g) (use := use) i
  have hf := zO i0
  have hx' : x ∈ (zeO g.first (use i) (zb4 g use i) (g.ands.getD i (0, 0))).2 := hx
  unfold zeO at hx'
  dsimp only at hx'
  rw [List.mem_append, List.mem_singleton] at hx'
  rcases hx' with hx' | rfl
  ·have := h x hx'; omega
  ·omega
set_option maxHeartbeats 8000000 in
theorem zlA {g : Gr} (hg : g.chk = 0) : Ev TE 90 [g.v] (za6 g (zb4 g (zbb g) g.ands.length)).v := by
 have hM : maxLen = 9223372036854775807 := rfl
 obtain ⟨_, i0, i1, i2, i3, i4, i5⟩ := zI hg
 obtain ⟨r1, r2, r3, r4⟩ := zU i4
 have wf : g.first = 1 + g.ins + g.next.length := rfl
 have wa : g.all = 2 * (g.first + g.ands.length) := rfl
 have hfst := zb8 g (by omega) (by omega) (by omega)
 have hld := zq1 hg
 have dg : V.dats [.agg [vi g.ins, zo g.next, zo g.init, prs g.ands, zo g.outs]] = true := by simp only [V.dats, V.dat, Bool.and_self]
 obtain ⟨L, hL⟩ : ∃ L, L = zer g := ⟨_, rfl⟩
 rw [← hL] at hld
 have hf0 := zO i0
 unfold Gr.v at hfst hld ⊢
 refine zh Tryz.func90 rfl (by simp [nts]) ?_
 refine za (vm ?_)
 simp only [wq.down, Nat.reduceLT, Tryz.results90]
 refine za (vm ?_)
 simp only [wq.down, seval]
 refine zb.ev hld dg ?_
 simp only [wq.down, seval]
 refine za (vm ?_)
 simp only [wq.down, Nat.reduceLT]
 refine zbt 4 1 (by simp only [wq.down, ↓reduceIte]) ?_
 refine za (vm ?_)
 simp only [wq.down, seval]
 refine zbR ?_
 refine zfl (h' := hRC g [] []) (HLe.set (i := 3) (o' := .cells [vi g.ins, .nils, zo g.init, .ls 4 2 0 0 0, .nils]) rfl (OLe.cells (by simp) (zar.cons (VLe.refl _) (zar.cons (VLe.refl _) (zar.cons (VLe.refl _) (zar.cons zaU (zar.refl _))))))) ?_
 refine za (vm ?_)
 simp only [wq.down, Nat.reduceLT]
 refine zp (fun m f h => ∃ i, m + i = g.first.toNat ∧ f.t 1 = .lp 0 0 ∧ f.t 2 = .lp 1 0 ∧ f.t 3 = zjc L ∧ f.t 4 = .ls 2 1 0 i i ∧ f.t 5 = .lp 3 0 ∧ f.t 6 = vi i ∧ f.d = [] ∧ h = hRC g [] (zaJ i)) g.first.toNat ⟨0, by omega, by simp only [wq.down, seval], by simp only [wq.down, seval], by simp only [wq.down, seval], by simp only [wq.down, seval], by simp only [wq.down, seval], rfl, by simp only [wq.down], rfl⟩ ?_
 rintro m f h ⟨i, hm, t1, t2, t3, t4, t5, t6, hd, rfl⟩
 refine za (vm ?_)
 simp only [wq.down, seval, t1, t6]
 refine zb.ev hfst dg ?_
 simp only [wq.down, seval]
 refine vcB.mk (fun hlt => ?_) (fun hlt => ?_)
 ·simp only [decide_eq_true_eq] at hlt
  have hw := zi (show i < maxLen by omega)
  have w2 : IntKind.i64.wrap (2 * (i : Int)) = 2 * i := zad (by omega) (by omega)
  have hel : ((zaJ i).map vi).length = i * 1 := by rw [List.length_map, zaq]; omega
  have dcs : ∀ p, V.drops p ((zaJ i).map vi) = (zaJ i).map vi := fun p => zB _
  simp only [wq.down]
  refine vm ?_
  simp only [wq.down, ↓reduceIte, Nat.reduceEqDiff, Nat.reduceLT, Nat.reduceBEq, reduceCtorEq, Nat.reduceMul, t4, t6, hd, hw, w2, dcs]
  refine ⟨⟨by decide, by decide⟩, ⟨by rw [zaq]; omega, by omega, by omega⟩, ?_⟩
  exact .inl ⟨m - 1, by omega, i + 1, by omega, by simp only [wq.down, seval, t1], by simp only [wq.down, seval, t2], by simp only [wq.down, seval, t3], by simp only [wq.down, seval], by simp only [wq.down, seval, t5], by simp only [wq.down, ↓reduceIte], by simp only [wq.down, hd], by simp only [hRC, zep, List.map_append]; rfl⟩
 simp only [decide_eq_false_iff_not] at hlt
 have : i = g.first.toNat := by omega
 subst this
 simp only [wq.down]
 refine za ?_
 refine vm ?_
 simp only [wq.down, Nat.reduceLT]
 refine zp (fun m f h => ∃ i A C, m + i = g.ands.length ∧ zb4 g (zbb g) i = (A, C) ∧ f.t 1 = .lp 0 0 ∧ f.t 2 = .lp 1 0 ∧ f.t 3 = zjc L ∧ f.t 4 = .ls 2 1 0 C.length C.length ∧ f.t 5 = .lp 3 0 ∧ f.t 7 = vi i ∧ f.d = [] ∧ h = hRC g A C) g.ands.length ⟨0, [], zaJ g.first.toNat, by omega, rfl, by simp only [wq.down, seval, t1], by simp only [wq.down, seval, t2], by simp only [wq.down, seval, t3], by simp only [wq.down, seval, t4, zaq], by simp only [wq.down, seval, t5], rfl, by simp only [wq.down, hd], rfl⟩ ?_
 clear t1 t2 t3 t4 t5 t6 hd hlt hm
 rintro m f h ⟨i, A, C, hm, hAC, t1, t2, t3, t4, t5, t7, hd, rfl⟩
 refine za (vm ?_)
 simp only [wq.down, seval, t1, t7]
 refine vcB.mk (fun hlt => ?_) (fun hlt => ?_)
 ·simp only [decide_eq_true_eq, Int.ofNat_lt] at hlt
  obtain ⟨k1, k2, k3⟩ := zet hg (zbb g) i (by omega)
  have hAl := zfW (g := g) (use := zbb g) i
  rw [hAC] at k1 k2 k3 hAl
  dsimp only at k1 k2 k3 hAl
  have hw := zi (show i < maxLen by omega)
  have w2 : IntKind.i64.wrap (g.first + (A.length : Int)) = g.first + A.length := zad (by omega) (by omega)
  have w3 : IntKind.i64.wrap (2 * (g.first + (A.length : Int))) = 2 * (g.first + A.length) := zad (by omega) (by omega)
  have dC : ∀ p, V.drops p (C.map vi) = C.map vi := fun p => zB _
  have dF : ∀ p, V.drops p (fl A) = fl A := fun p => zaT
  have hCl : (C.map vi).length = C.length * 1 := by rw [List.length_map, Nat.mul_one]
  simp only [wq.down]
  refine za (zy ?_)
  refine za (zM mixed zpQ (fun f' h' => f'.t 1 = .lp 0 0 ∧ f'.t 2 = .lp 1 0 ∧ f'.t 3 = zjc L ∧ f'.t 4 = .ls 2 1 0 (C.length + 1) (C.length + 1) ∧ f'.t 5 = .lp 3 0 ∧ f'.t 7 = vi i ∧ f'.d = [] ∧ h' = hRC g A (C ++ [2 * (g.first + (A.length : Int))])) (by decide +kernel) (by decide +kernel) ?_ ?_)
  ·simp only [wq.down, ↓reduceIte, Nat.reduceEqDiff, Nat.reduceLT, Nat.reduceLeDiff, Nat.reduceAdd, Nat.reduceSub, Int.reduceToNat, Nat.reduceDiv, Int.reduceLT, Int.reduceLE, Int.reduceNeg, Int.reduceBEq, Int.reduceBNe, Int.reduceAdd, Int.reduceSub, Nat.reduceBEq, reduceCtorEq, Nat.reduceMul, zg, Tryz.results90, zpQ, t1, t2, t3, t4, t5, t7, hd, w2, w3, dC, dF, hCl]
   repeat' apply And.intro
   all_goals
    refine zb.ev hfst dg ?_
    simp only [wq.down, ↓reduceIte, Nat.reduceEqDiff, Nat.reduceLT, Nat.reduceLeDiff, Nat.reduceAdd, Nat.reduceSub, Int.reduceToNat, Nat.reduceDiv, Int.reduceLT, Int.reduceLE, Int.reduceNeg, Int.reduceBEq, Int.reduceBNe, Int.reduceAdd, Int.reduceSub, Nat.reduceBEq, reduceCtorEq, Nat.reduceMul, zg, Tryz.results90, zX, t1, t2, t3, t4, t5, t7, hd, w2, w3, dC, dF, hCl]
    refine ⟨⟨by decide, by decide⟩, ⟨by omega, by omega, by omega⟩, ?_⟩
    simp only [hRC, List.map_append]
    rfl
  clear t1 t2 t3 t4 t5 t7 hd
  rintro f h ⟨t1, t2, t3, t4, t5, t7, hd, rfl⟩
  show awp _ _ _ _ _ _ _
  obtain ⟨C', hC'⟩ : ∃ C', C' = C ++ [2 * (g.first + (A.length : Int))] := ⟨_, rfl⟩
  have hC'l : C'.length = C.length + 1 := by rw [hC', List.length_append, List.length_singleton]
  rw [← hC'l] at t4
  rw [← hC']
  obtain ⟨k, hk⟩ : ∃ k : Nat, g.first + (i : Int) = k := ⟨(g.first + (i : Int)).toNat, by omega⟩
  have w4 : IntKind.i64.wrap (g.first + (i : Int)) = k := by rw [zad (by omega) (by omega)]; exact hk
  have hLl : L.length = g.vars := by rw [hL]; exact zhe
  have hvr : (g.vars : Int) = g.first + g.ands.length := by unfold Gr.vars; omega
  have hgL : (L.map V.bool).getD k .any = V.bool (L.getD k false) := by
   rw [List.getD_eq_getElem?_getD, List.getElem?_map, List.getD_eq_getElem?_getD, List.getElem?_eq_getElem (show k < L.length by omega)]
   rfl
  have hu : zbb g i = L.getD k false := by unfold zbb; rw [hL, hk, Int.toNat_natCast]
  have hst : zb4 g (zbb g) (i + 1) = zeO g.first (zbb g i) (A, C) g.ands[i] := by
   show zeO g.first (zbb g i) (zb4 g (zbb g) i) (g.ands.getD i (0, 0)) = _
   rw [hAC, zw hlt]
  unfold zeO at hst
  dsimp only at hst
  rw [← hC', hu] at hst
  refine za (vm ?_)
  simp only [wq.down, seval, t1, t3]
  refine zb.ev hfst dg ?_
  simp only [wq.down, seval, t7, w4, hgL]
  refine ⟨⟨by omega, by omega⟩, ?_⟩
  cases hb : L.getD k false with
  | false =>
   rw [hb, if_neg (by decide)] at hst
   refine vm ?_
   simp only [wq.down, ↓reduceIte]
   refine vm ?_
   simp only [wq.down, seval, t7, hw]
   exact .inl ⟨m - 1, by omega, i + 1, A, C', by omega, hst, by simp only [wq.down, seval, t1], by simp only [wq.down, seval, t2], by simp only [wq.down, seval, t3], by simp only [wq.down, seval, t4], by simp only [wq.down, seval, t5], by simp only [wq.down, ↓reduceIte], by simp only [wq.down, hd], rfl⟩
  | true =>
   rw [hb, if_pos rfl] at hst
   have hCb : ∀ x ∈ C', 0 ≤ x ∧ x ≤ 1000000 := fun x hx => by
    have := zhn i0 (use := zbb g) (i + 1) x (by rw [hst]; exact hx)
    omega
   have hgp := zcS hlt V.any
   obtain ⟨o1, o2, o3, o4⟩ := zal i5 hlt
   refine zS (b := true) (by simp only [wq.down, ↓reduceIte]) (by simp only [wq.down, ↓reduceIte, Nat.reduceEqDiff, Nat.reduceLT, Nat.reduceLeDiff, Nat.reduceAdd, Nat.reduceSub, Int.reduceToNat, Nat.reduceDiv, Int.reduceLT, Int.reduceLE, Int.reduceNeg, Int.reduceBEq, Int.reduceBNe, Int.reduceAdd, Int.reduceSub, Nat.reduceBEq, reduceCtorEq, Nat.reduceMul, zg, Tryz.results90]) (fun _ => ?_) (fun hb => by cases hb)
   have e1 := zcc C' g.ands[i].1 (by omega) (by omega) (by omega) hCb
   have e2 := zcc C' g.ands[i].2 (by omega) (by omega) (by omega) hCb
   have rr : ∀ a : Int, zj TE (hRC g A C') [.ls 2 1 0 C'.length C'.length, vi a] [zo C', vi a] := fun a => zj.cons (z7 rfl (by simp)) (zj.cons (zn.dat rfl) zj.nil)
   refine zhV mixed 20 (.one 20 <| .take 21 <| .one 22 <| .fin) (fun f' h' => f'.t 1 = .lp 0 0 ∧ f'.t 2 = .lp 1 0 ∧ f'.t 3 = zjc L ∧ f'.t 4 = .ls 2 1 0 C'.length C'.length ∧ f'.t 5 = .lp 3 0 ∧ f'.t 7 = vi i ∧ f'.d = [] ∧ h' = hRC g (A ++ [(zK C' g.ands[i].1, zK C' g.ands[i].2)]) C') (by decide +kernel) ?_ ?_
   ·intro K hK
    simp only [List.take_succ_cons, List.take_zero]
    simp only [wq.down, ↓reduceIte, Nat.reduceEqDiff, Nat.reduceLT, Nat.reduceLeDiff, Nat.reduceAdd, Nat.reduceSub, Int.reduceToNat, Nat.reduceDiv, Int.reduceLT, Int.reduceLE, Int.reduceNeg, Int.reduceBEq, Int.reduceBNe, Int.reduceAdd, Int.reduceSub, Nat.reduceBEq, reduceCtorEq, Nat.reduceMul, zg, Tryz.results90, zaA, t1, t2, t3, t4, t5, t7, hd, dF, hgp]
    refine ⟨⟨by omega, by omega⟩, by decide, zdN.mk e1 (by decide +kernel) (rr _) rfl ?_⟩
    simp only [wq.down, ↓reduceIte, Nat.reduceEqDiff, Nat.reduceLT, Nat.reduceLeDiff, Nat.reduceAdd, Nat.reduceSub, Int.reduceToNat, Nat.reduceDiv, Int.reduceLT, Int.reduceLE, Int.reduceNeg, Int.reduceBEq, Int.reduceBNe, Int.reduceAdd, Int.reduceSub, Nat.reduceBEq, reduceCtorEq, Nat.reduceMul, zg, Tryz.results90, zaA, t1, t2, t3, t4, t5, t7, hd, dF, hgp]
    refine ⟨⟨by omega, by omega⟩, by decide, zdN.mk e2 (by decide +kernel) (rr _) rfl ?_⟩
    simp only [wq.down, ↓reduceIte, Nat.reduceEqDiff, Nat.reduceAdd]
    refine ⟨⟨rfl, by decide⟩, hK _ ?_⟩
    simp only [wq.down, seval, t1, t2, t3, t4, t5, t7, hd, dF]
    refine ⟨rfl, ⟨zig A, rfl, by omega, by omega⟩, ?_⟩
    simp only [hRC, zB, List.length_append, List.length_singleton, List.flatMap_append]
    rfl
   clear t1 t2 t3 t4 t5 t7 hd
   rintro f h ⟨t1, t2, t3, t4, t5, t7, hd, rfl⟩
   show awp _ _ _ _ _ _ _
   refine vm ?_
   simp only [wq.down, seval, t7, hw]
   exact .inl ⟨m - 1, by omega, i + 1, _, C', by omega, hst, by simp only [wq.down, seval, t1], by simp only [wq.down, seval, t2], by simp only [wq.down, seval, t3], by simp only [wq.down, seval, t4], by simp only [wq.down, seval, t5], by simp only [wq.down, ↓reduceIte], by simp only [wq.down, hd], rfl⟩
 simp only [decide_eq_false_iff_not, Int.ofNat_lt] at hlt
 have : i = g.ands.length := by omega
 subst this
 obtain ⟨k1, k2, k3⟩ := zet hg (zbb g) g.ands.length (Nat.le_refl _)
 have hCb := zhn i0 (use := zbb g) g.ands.length
 rw [hAC] at k1 k2 k3 hCb ⊢
 dsimp only at k1 k2 k3 hCb ⊢
 have hCb' : ∀ x ∈ C, 0 ≤ x ∧ x ≤ 1000000 := fun x hx => by have := hCb x hx; omega
 have f1 := zcy C g.next (by omega) (fun a ha => by have := r3 a ha; omega) hCb'
 have f2 := zcy C g.outs (by omega) (fun a ha => by have := r4 a ha; omega) hCb'
 have di : ∀ a b : Cl, V.dats [zo a, zo b] = true := fun a b => by simp only [V.dats, V.dat, Bool.and_self]
 simp only [wq.down]
 refine zhW 2 4 (zo C) (by simp only [wq.down, seval, t4]) (by simp only [wq.down, seval, t4]; exact z7 (by show some (O.cells (V.drops _ (C.map vi))) = _; rw [zB]) rfl) (by simp only [wq.down, hd]) ?_
 have dF : V.drops (· == 2) (fl A) = fl A := zaT
 rw [show zeI (· == 2) 0 (hRC g A C) = [.cells [vi g.ins, zo g.next, zo g.init, prs g.ands, zo g.outs], .cells [vi 0, .nils, .nils, .nils, .nils], .dead, .cells [vi g.ins, .nils, zo g.init, .ls 4 2 0 A.length A.length, .nils], .cells (fl A)] by simp [zeI, hRC, O.drop, V.drops, V.drop, dF]]
 refine zjb (fun f' => f'.t 1 = .lp 0 0 ∧ f'.t 2 = .lp 1 0 ∧ f'.t 4 = zo C ∧ f'.t 5 = .lp 3 0 ∧ f'.d = []) _ (fun hk => hk _ ⟨by show (f.t 1).drop _ = _; rw [t1]; rfl, by show (f.t 2).drop _ = _; rw [t2]; rfl, rfl, by show (f.t 5).drop _ = _; rw [t5]; rfl, hd⟩) ?_
 clear t1 t2 t3 t4 t5 t7 hd f
 rintro f ⟨t1, t2, t4, t5, hd⟩
 refine za (vm ?_)
 simp only [wq.down, seval, t1, t4]
 refine zb.ev f1 (di _ _) ?_
 simp only [wq.down, seval, t5]
 refine za (vm ?_)
 simp only [wq.down, seval, t1, t4]
 refine zb.ev f2 (di _ _) ?_
 simp only [wq.down, seval, t5]
 refine vm ?_
 simp only [wq.down, seval, t2, t5, hd]
 have dI : ∀ a : Cl, V.dat (zo a) = true := fun a => by simp only [V.dat]
 exact zn.agg (zj.cons (zn.dat rfl) (zj.cons (zn.dat (dI _)) (zj.cons (zn.dat (dI _)) (zj.cons (zc1 rfl rfl) (zj.cons (zn.dat (dI _)) zj.nil)))))
abbrev hRN (g : Gr) (C : Cl) : H := [.cells [vi g.ins, zo g.next, zo g.init, prs g.ands, zo g.outs], .cells [vi 0, .nils, .nils, .nils, .nils], .cells (C.map vi)]
theorem zlB {g : Gr} {C : Cl} : zbi (hRN g C) := fun p hp => by
 have h2 := hp 2 (show 2 < 3 by decide)
 have d2 : V.drops p (C.map vi) = C.map vi := zB _
 simp only [wq.down, hRN, O.drop, V.drops, V.drop, d2]
set_option maxHeartbeats 8000000 in
theorem ziJ {g : Gr} (hg : g.chk = 0) : Ev TE 43 [g.v] (.tup [(zas g).v, vi 0]) := by
 have hM : maxLen = 9223372036854775807 := rfl
 obtain ⟨_, i0, i1, i2, i3, i4, i5⟩ := zI hg
 obtain ⟨r1, r2, r3, r4⟩ := zU i4
 have wf : g.first = 1 + g.ins + g.next.length := rfl
 have wa : g.all = 2 * (g.first + g.ands.length) := rfl
 have hfst := zb8 g (by omega) (by omega) (by omega)
 have hck := zeo g (by omega) (by omega) (by omega) (by omega)
 rw [hg] at hck
 have dg : V.dats [.agg [vi g.ins, zo g.next, zo g.init, prs g.ands, zo g.outs]] = true := by simp only [V.dats, V.dat, Bool.and_self]
 have hf0 := zO i0
 rw [zln hg]
 obtain ⟨y, hy⟩ : ∃ y, y = za6 (za6 g (zG g (fun _ => true) g.ands.length)) (zb4 (za6 g (zG g (fun _ => true) g.ands.length)) (zbb (za6 g (zG g (fun _ => true) g.ands.length))) (za6 g (zG g (fun _ => true) g.ands.length)).ands.length) := ⟨_, rfl⟩
 rw [← hy]
 unfold Gr.v at hfst hck ⊢
 refine zh Tryz.func43 rfl (by simp [nts]) ?_
 refine za (vm ?_)
 simp only [wq.down, Nat.reduceLT, Tryz.results43]
 refine za (vm ?_)
 simp only [wq.down, seval]
 refine zb.ev hck dg ?_
 simp only [wq.down, seval]
 refine za (vm ?_)
 simp only [wq.down, seval]
 refine za (vm ?_)
 simp only [wq.down, Nat.reduceLT]
 refine zbt 5 1 (by simp only [wq.down, ↓reduceIte]) ?_
 refine za (vm ?_)
 simp only [wq.down, seval]
 refine zmt (FLe.one 6 (v := prs []) (by simp only [wq.down, ↓reduceIte]; exact zag)) (HLe.refl _) ?_
 refine za (vm ?_)
 simp only [wq.down, Nat.reduceLT]
 refine zp (fun m f h => ∃ i, m + i = g.first.toNat ∧ f.t 1 = .lp 0 0 ∧ f.t 2 = .lp 1 0 ∧ f.t 5 = .ls 2 1 0 i i ∧ f.t 6 = prs [] ∧ f.t 7 = vi i ∧ f.d = [] ∧ h = hRN g (zaJ i)) g.first.toNat ⟨0, by omega, by simp only [wq.down, seval], by simp only [wq.down, seval], by simp only [wq.down, seval], by simp only [wq.down, seval], rfl, rfl, rfl⟩ ?_
 rintro m f h ⟨i, hm, t1, t2, t5, t6, t7, hd, rfl⟩
 refine za (vm ?_)
 simp only [wq.down, seval, t1, t7]
 refine zb.ev hfst dg ?_
 simp only [wq.down, seval]
 refine vcB.mk (fun hlt => ?_) (fun hlt => ?_)
 ·simp only [decide_eq_true_eq] at hlt
  have hw := zi (show i < maxLen by omega)
  have w2 : IntKind.i64.wrap (2 * (i : Int)) = 2 * i := zad (by omega) (by omega)
  have hel : ((zaJ i).map vi).length = i * 1 := by rw [List.length_map, zaq]; omega
  have dcs : ∀ p, V.drops p ((zaJ i).map vi) = (zaJ i).map vi := fun p => zB _
  simp only [wq.down]
  refine vm ?_
  simp only [wq.down, ↓reduceIte, Nat.reduceEqDiff, Nat.reduceLT, reduceCtorEq, Nat.reduceMul, t5, t7, hd, hw, w2, dcs]
  refine ⟨⟨by decide, by decide⟩, ⟨by rw [zaq]; omega, by omega, by omega⟩, ?_⟩
  exact .inl ⟨m - 1, by omega, i + 1, by omega, by simp only [wq.down, seval, t1], by simp only [wq.down, seval, t2], by simp only [wq.down, seval], by simp only [wq.down, seval, t6], by simp only [wq.down, ↓reduceIte], by simp only [wq.down, hd], by simp only [hRN, zep, List.map_append]; rfl⟩
 simp only [decide_eq_false_iff_not] at hlt
 have : i = g.first.toNat := by omega
 subst this
 simp only [wq.down]
 refine za ?_
 refine vm ?_
 simp only [wq.down, Nat.reduceLT]
 refine zp (fun m f h => ∃ i A C, m + i = g.ands.length ∧ zG g (fun _ => true) i = (A, C) ∧ f.t 1 = .lp 0 0 ∧ f.t 2 = .lp 1 0 ∧ f.t 5 = .ls 2 1 0 C.length C.length ∧ f.t 6 = prs A ∧ f.t 8 = vi i ∧ f.d = [] ∧ ∃ X, h = hRN g C ++ X) g.ands.length ⟨0, [], zaJ g.first.toNat, by omega, rfl, by simp only [wq.down, seval, t1], by simp only [wq.down, seval, t2], by simp only [wq.down, seval, t5, zaq], by simp only [wq.down, seval, t6], rfl, by simp only [wq.down, hd], [], (List.append_nil _).symm⟩ ?_
 clear t1 t2 t5 t6 t7 hd hlt hm f
 rintro m f h ⟨i, A, C, hm, hAC, t1, t2, t5, t6, t8, hd, X, rfl⟩
 refine zcN (by rw [hd]; simp) ?_
 rw [zlB.from_]
 obtain ⟨f', hf'⟩ : ∃ f', f' = f.drop (Abs.zf4 (hRN g C).length) := ⟨_, rfl⟩
 have u1 : f'.t 1 = .lp 0 0 := by rw [hf']; show (f.t 1).drop _ = _; rw [t1]; rfl
 have u2 : f'.t 2 = .lp 1 0 := by rw [hf']; show (f.t 2).drop _ = _; rw [t2]; rfl
 have u5 : f'.t 5 = .ls 2 1 0 C.length C.length := by rw [hf']; show (f.t 5).drop _ = _; rw [t5]; rfl
 have u6 : f'.t 6 = prs A := by rw [hf']; show (f.t 6).drop _ = _; rw [t6]; rfl
 have u8 : f'.t 8 = vi i := by rw [hf']; show (f.t 8).drop _ = _; rw [t8]; rfl
 have ud : f'.d = [] := by rw [hf']; exact hd
 rw [← hf']
 clear hf' t1 t2 t5 t6 t8 hd X f
 obtain ⟨q1, q2, q3⟩ := zbf (g := g) i0 (fun _ => true) i
 rw [hAC] at q1 q2 q3
 dsimp only at q1 q2 q3
 refine za (vm ?_)
 simp only [wq.down, seval, u1, u8]
 refine vcB.mk (fun hlt => ?_) (fun hlt => ?_)
 ·simp only [decide_eq_true_eq, Int.ofNat_lt] at hlt
  have hw := zi (show i < maxLen by omega)
  have hCb : ∀ x ∈ C, 0 ≤ x ∧ x ≤ 1000000 := fun x hx => by have := q3 x hx; omega
  have dC : ∀ p, V.drops p (C.map vi) = C.map vi := fun p => zB _
  have hCl : (C.map vi).length = C.length * 1 := by rw [List.length_map, Nat.mul_one]
  have hgp := zcS hlt V.any
  obtain ⟨o1, o2, o3, o4⟩ := zal i5 hlt
  have c1 := zaM (C := C) (a := g.ands[i].1) (k := g.first + A.length) (by omega) q3
  have c2 := zaM (C := C) (a := g.ands[i].2) (k := g.first + A.length) (by omega) q3
  have e1 := zcc C g.ands[i].1 (by omega) (by omega) (by omega) hCb
  have e2 := zcc C g.ands[i].2 (by omega) (by omega) (by omega) hCb
  have e3 := zq0 A g.first (zK C g.ands[i].1) (zK C g.ands[i].2) (by omega) (by omega) (by omega) c1.1 c2.1 (by omega) (by omega)
  have rr : ∀ a : Int, zj TE (hRN g C) [.ls 2 1 0 C.length C.length, vi a] [zo C, vi a] := fun a => zj.cons (z7 rfl (by simp)) (zj.cons (zn.dat rfl) zj.nil)
  have hst : zG g (fun _ => true) (i + 1) = ((zbq g.first A (zK C g.ands[i].1) (zK C g.ands[i].2)).1, C ++ [(zbq g.first A (zK C g.ands[i].1) (zK C g.ands[i].2)).2]) := by
   show zb3 g.first true (zG g (fun _ => true) i) (g.ands.getD i (0, 0)) = _
   rw [hAC, zw hlt]
   rfl
  generalize zbq g.first A (zK C g.ands[i].1) (zK C g.ands[i].2) = B at e3 hst
  obtain ⟨A', b⟩ := B
  dsimp only at e3 hst
  have dA : ∀ A : List Pr, V.dat (prs A) = true := fun A => by simp only [V.dat]
  simp only [wq.down]
  refine za (zy ?_)
  refine za (zmF mixed 20 9 ⟨.struct [(0, 23), (1, 3)], 2, 32, .agg [.nils, vi 0]⟩ (zou 140 rfl (by simp only [wq.down]) (by rfl) (by decide +kernel)) rfl (by decide +kernel) ?_)
  simp only [nts, List.size_toArray, List.length_cons, List.length_nil, Nat.reduceAdd, Nat.reduceSub, List.take_succ_cons, List.take_zero]
  simp only [wq.down, ↓reduceIte, Nat.reduceEqDiff, Nat.reduceLT, Nat.reduceLeDiff, Nat.reduceAdd, Nat.reduceSub, Int.reduceToNat, Nat.reduceDiv, Int.reduceLT, Int.reduceLE, Int.reduceNeg, Int.reduceBEq, Int.reduceBNe, Int.reduceAdd, Int.reduceSub, Nat.reduceBEq, reduceCtorEq, Nat.reduceMul, zg, Tryz.results43, zaA, zaO, u1, u2, u5, u6, u8, ud, hgp]
  refine zcP hfst (by decide +kernel) dg ?_
  simp only [wq.down, ↓reduceIte, Nat.reduceEqDiff, Nat.reduceLT, Nat.reduceLeDiff, Nat.reduceAdd, Nat.reduceSub, Int.reduceToNat, Nat.reduceDiv, Int.reduceLT, Int.reduceLE, Int.reduceNeg, Int.reduceBEq, Int.reduceBNe, Int.reduceAdd, Int.reduceSub, Nat.reduceBEq, reduceCtorEq, Nat.reduceMul, zg, Tryz.results43, zaA, u1, u2, u5, u6, u8, ud, hgp]
  refine ⟨⟨by omega, by omega⟩, by decide, ?_⟩
  refine zdN.mk e1 (by decide +kernel) (rr _) rfl ?_
  simp only [wq.down, ↓reduceIte, Nat.reduceEqDiff, Nat.reduceLT, Nat.reduceLeDiff, Nat.reduceAdd, Nat.reduceSub, Int.reduceToNat, Nat.reduceDiv, Int.reduceLT, Int.reduceLE, Int.reduceNeg, Int.reduceBEq, Int.reduceBNe, Int.reduceAdd, Int.reduceSub, Nat.reduceBEq, reduceCtorEq, Nat.reduceMul, zg, Tryz.results43, zaA, u1, u2, u5, u6, u8, ud, hgp]
  refine ⟨⟨by omega, by omega⟩, by decide, ?_⟩
  refine zdN.mk e2 (by decide +kernel) (rr _) rfl ?_
  simp only [wq.down, ↓reduceIte, Nat.reduceEqDiff]
  refine zcP e3 (by decide +kernel) (by simp only [V.dats, V.dat, Bool.and_self]) ?_
  simp only [wq.down, ↓reduceIte, Nat.reduceAdd]
  refine vm ?_
  simp only [wq.down, ↓reduceIte, Nat.reduceEqDiff, Nat.reduceLT, Nat.reduceLeDiff, Nat.reduceAdd, reduceCtorEq, Nat.reduceMul, u5, ud, dC]
  refine ⟨⟨by decide, by decide⟩, ⟨by omega, by omega, by omega⟩, ?_⟩
  refine vm ?_
  simp only [wq.down, seval, u8, hw]
  refine .inl ⟨m - 1, by omega, i + 1, A', C ++ [b], by omega, hst, by simp only [wq.down, seval, u1], by simp only [wq.down, seval, u2], by simp only [wq.down, seval], by simp only [wq.down, seval], by simp only [wq.down, ↓reduceIte], by simp only [wq.down, ud], [.cells [prs A', vi b]], ?_⟩
  simp only [List.map_append]
  rfl
 simp only [decide_eq_false_iff_not, Int.ofNat_lt] at hlt
 have : i = g.ands.length := by omega
 subst this
 have hxc := zae hg (fun _ => true)
 rw [hAC] at hxc hy
 have hcl := zlA hxc
 rw [← hy] at hcl
 have hCb : ∀ x ∈ C, 0 ≤ x ∧ x ≤ 1000000 := fun x hx => by have := q3 x hx; omega
 have f1 := zcy C g.next (by omega) (fun a ha => by have := r3 a ha; omega) hCb
 have f2 := zcy C g.outs (by omega) (fun a ha => by have := r4 a ha; omega) hCb
 have di : ∀ a b : Cl, V.dats [zo a, zo b] = true := fun a b => by simp only [V.dats, V.dat, Bool.and_self]
 simp only [wq.down]
 refine zhW 2 5 (zo C) (by simp only [wq.down, seval, u5]) (by simp only [wq.down, seval, u5]; exact z7 (by show some (O.cells (V.drops _ (C.map vi))) = _; rw [zB]) rfl) (by simp only [wq.down, ud]) ?_
 rw [show zeI (· == 2) 0 (hRN g C) = [.cells [vi g.ins, zo g.next, zo g.init, prs g.ands, zo g.outs], .cells [vi 0, .nils, .nils, .nils, .nils], .dead] by simp [zeI, hRN, O.drop, V.drops, V.drop]]
 refine zjb (fun f' => f'.t 1 = .lp 0 0 ∧ f'.t 2 = .lp 1 0 ∧ f'.t 5 = zo C ∧ f'.t 6 = prs A ∧ f'.d = []) _ (fun hk => hk _ ⟨by show (f'.t 1).drop _ = _; rw [u1]; rfl, by show (f'.t 2).drop _ = _; rw [u2]; rfl, rfl, by show (f'.t 6).drop _ = _; rw [u6]; rfl, ud⟩) ?_
 clear u1 u2 u5 u6 u8 ud f'
 rintro f ⟨t1, t2, t5, t6, hd⟩
 refine za (zhV mixed 15 (.one 15 <| .take 16 <| .fin) (fun f' h' => f'.t 2 = .lp 1 0 ∧ f'.t 3 = vi 0 ∧ f'.d = [] ∧ h' = [.cells [vi g.ins, zo g.next, zo g.init, prs g.ands, zo g.outs], .cells [vi y.ins, zo y.next, zo y.init, prs y.ands, zo y.outs], .dead]) (by decide +kernel) ?_ ?_)
 ·intro K hK
  simp only [List.take_succ_cons, List.take_zero]
  simp only [wq.down, seval, zaA, t1, t5, t6]
  refine zcP f1 (by decide +kernel) (di _ _) ?_
  simp only [wq.down, seval, t1, t5]
  refine zcP f2 (by decide +kernel) (di _ _) ?_
  simp only [wq.down, seval]
  refine zcP hcl (by decide +kernel) (by simp only [V.dats, V.dat, Bool.and_self]) (hK _ ?_)
  simp only [wq.down, seval, t2, hd]
 ·rintro f h ⟨t2, t3, hd, rfl⟩
  show awp _ _ _ _ _ _ _
  refine vm ?_
  simp only [wq.down, seval, t2, t3, hd]
  exact zn.dat (by simp only [V.dats, V.dat, Bool.and_self])
def za5 (s : S) : V := match zb5 s with
 | .error (w, e) => .tup [ziz, zP s w e]
 | .ok m => .tup [m.v, .agg [vi 0, vi 0, vi 0]]
theorem ziK {h : H} {K : H → (Nat → Bool) → Prop} (hK : ∀ X, K (h ++ [X]) (fun _ => false)) : zba TE 44 [.lp 0 0, .lp 1 0, .lp 2 0] h K := by
 have hgE : ∀ x : O, (h ++ [x])[h.length]? = some x := fun x => by simp
 have hgS : ∀ x y : O, (h ++ [x]).set h.length y = h ++ [y] := fun x y => by simp
 refine zb2 rfl Tryz.func44 rfl rfl (by simp [nts]) rfl (fun ev w => rfl) rfl (by decide) ?_
 simp only [nts]
 refine zap rfl rfl ?_
 refine zbE (x := .tmp 6) (t := 86) (q := ⟨.struct [(0, 3), (1, 31)], 2, 16, .agg [vi 0, vi 0]⟩) rfl (by simp only [wq.down]) (by simp only [wq.down, ↓reduceIte]) (by simp only [wq.down, ↓reduceIte]) ?_
 refine zm rfl rfl ?_
 simp only [wq.down, ↓reduceIte]
 refine zm rfl rfl ?_
 simp only [wq.down, seval]
 refine zm rfl rfl ?_
 simp only [wq.down, seval]
 refine zm rfl rfl ?_
 simp only [wq.down]
 refine zm rfl rfl ?_
 simp only [wq.down, seval, hgE, hgS]
 refine zm rfl rfl ?_
 simp only [wq.down, seval]
 refine zak ?_
 show awp _ _ _ _ _ _ _
 refine za (vm ?_)
 simp only [wq.down, seval]
 refine zS (b := false) (by simp only [wq.down, ↓reduceIte]) (by simp only [wq.down, ↓reduceIte]) (fun hb => by cases hb) (fun _ => ?_)
 refine vm ?_
 simp only [wq.down, reduceCtorEq]
 exact hK _
set_option maxHeartbeats 4000000 in
theorem znM {s : S} {Y : H} {c1 c2 : List V} {K : H → (Nat → Bool) → Prop} (w e : Int) (hs : s.length ≤ 1000000000) (h1 : c1.length = 8) (h2 : c2.length = 3)
 (hK : ∀ X, K (.cells [.str s] :: bM :: .cells (zP s w e).vc :: (Y ++ [X])) (fun _ => false)) :
 zcq TE 44 [.lp 0 0, .lp 1 0, .lp 2 0] (zdB w e) (.cells [.str s] :: .cells c1 :: .cells c2 :: Y) K := by
 have hgE : ∀ x : O, (Y ++ [x])[Y.length]? = some x := fun x => by simp
 have hgS : ∀ x y : O, (Y ++ [x]).set Y.length y = Y ++ [y] := fun x y => by simp
 match c1, h1, c2, h2 with
 | [x0, x1, x2, x3, x4, x5, x6, x7], _, [y0, y1, y2], _ =>
 have hf : ∃ x y z, zP s w e = .agg [vi x, vi y, vi z] := by unfold zP; split <;> exact ⟨_, _, _, rfl⟩
 obtain ⟨x, y, z, hf⟩ := hf
 rw [hf] at hK
 have hsf := zj3 s w e hs
 rw [hf] at hsf
 refine zb0 rfl Tryz.func44 rfl rfl (by simp [nts]) rfl (fun ev w => rfl) rfl (by decide) ?_
 simp only [nts]
 refine zm rfl rfl ?_
 simp only [wq.down, ↓reduceIte]
 refine ⟨by decide, ?_⟩
 refine zm rfl rfl ?_
 simp only [wq.down, ↓reduceIte]
 refine zm rfl rfl ?_
 simp only [wq.down, seval]
 refine zm rfl rfl ?_
 simp only [wq.down, seval]
 refine zm rfl rfl ?_
 simp only [wq.down]
 refine zm rfl rfl ?_
 simp only [wq.down, seval, hgE, hgS]
 refine zm rfl rfl ?_
 simp only [wq.down, seval]
 refine zak ?_
 show awp _ _ _ _ _ _ _
 refine za (vm ?_)
 simp only [wq.down, seval]
 refine zS (b := true) (by simp only [wq.down, ↓reduceIte]) (by simp only [wq.down, ↓reduceIte]) (fun _ => ?_) (fun hb => by cases hb)
 refine vm ?_
 simp only [wq.down, seval, hgE]
 refine zb.ev hsf rfl ?_
 simp only [wq.down, seval]
 exact hK _
theorem znN {s magic : S} {w : Nat} {e : Int} (h : zeP s magic = .error (w, e)) : e ≠ 0 := by
 have hL : ∀ (k a : Nat) (l : Cl), zd1 s k a l = .error (w, e) → e ≠ 0 := by
  intro k
  induction k with
  | zero => intro a l h; cases h
  | succ k ih =>
   intro a l h
   unfold zd1 at h
   split at h
   ·split at h
    ·exact ih _ _ h
    ·rename_i er hn
     cases h
     have := zkf hn
     omega
   ·cases h
 unfold zeP at h
 split at h
 ·split at h
  ·split at h
   ·split at h
    ·split at h
     ·split at h
      ·cases h
      ·cases h; decide
     ·cases h; decide
    ·rename_i er hb
     unfold zde at hb
     split at hb
     ·cases hb
     ·cases hb; cases h; decide
   ·cases h; decide
  ·rename_i er hb
   cases h
   exact hL _ _ _ hb
 ·cases h; decide
theorem zpc {s : S} {a : Int} (h : 0 ≤ a) : 0 ≤ (ziS s a).2.1 := by
 unfold ziS
 repeat' split
 all_goals (show (0 : Int) ≤ _; dsimp only; omega)
theorem ziL {s : S} {lo hi a : Int} (h : 0 ≤ a) : (∀ n b, zev s lo hi a = .ok (n, b) → 0 ≤ b) ∧ ∀ w e, zev s lo hi a = .error (w, e) → 0 ≤ w ∧ e ≠ 0 := by
 have hp := zpc (s := s) h
 unfold zev
 by_cases h1 : (ziS s a).2.2 = 0
 ·rw [if_pos h1]
  split
  ·exact ⟨fun n b hh => (by cases hh; exact hp), fun w e hh => (by cases hh)⟩
  ·exact ⟨fun n b hh => (by cases hh), fun w e hh => (by cases hh; exact ⟨h, by decide⟩)⟩
 ·rw [if_neg h1]
  exact ⟨fun n b hh => (by cases hh), fun w e hh => (by cases hh; exact ⟨h, h1⟩)⟩
theorem zfX {s : S} {f : Int} : ∀ (k i : Nat) (a : Int) (L : List Pr), 0 ≤ a → (∀ M b, zax s f k i a L = .ok (M, b) → 0 ≤ b) ∧ ∀ w e, zax s f k i a L = .error (w, e) → 0 ≤ w ∧ e ≠ 0
 | 0, i, a, L, h => by
  unfold zax
  exact ⟨fun M b hh => (by cases hh; exact h), fun w e hh => (by cases hh)⟩
 | k + 1, i, a, L, h => by
  unfold zax znG
  obtain ⟨p1, p2⟩ := ziL (s := s) (lo := 1) (hi := 2 * (f + (i : Int))) h
  cases hx : zev s 1 (2 * (f + (i : Int))) a with
  | error er =>
   dsimp only
   exact ⟨fun M b hh => (by cases hh), fun w e hh => (by cases hh; exact p2 _ _ hx)⟩
  | ok xb =>
   obtain ⟨x, b⟩ := xb
   have hb := p1 _ _ hx
   dsimp only
   obtain ⟨q1, q2⟩ := ziL (s := s) (lo := 0) (hi := 2 * (f + (i : Int)) - x) hb
   cases hy : zev s 0 (2 * (f + (i : Int)) - x) b with
   | error er =>
    dsimp only
    exact ⟨fun M b hh => (by cases hh), fun w e hh => (by cases hh; exact q2 _ _ hy)⟩
   | ok yc =>
    obtain ⟨y, c⟩ := yc
    dsimp only
    exact zfX k (i + 1) c _ (q1 _ _ hy)
end Go.Proofs.YtfcpapokknfeeaaGreatDoor
