/- Lemmas for the statement of this claim, part F14: they hold with no conditions but those that each one names. -/
import Derived.Test.YtboolnpmlmgpkaaGreatDoorF11
import Derived.Test.YtboolnpmlmgpkaaGreatDoorF03
import Derived.Test.YtboolnpmlmgpkaaGreatDoorA11
import Derived.Test.YtboolnpmlmgpkaaGreatDoorA10
set_option linter.unusedVariables false
set_option maxRecDepth 20000
set_option linter.unusedSimpArgs false
set_option linter.unnecessarySimpa false
namespace Go.Proofs.YtboolnpmlmgpkaaGreatDoor
open Go Go.Proofs Go.Abs
theorem zhZ {l : Cl} (h : l.length ≤ 9) : (hd9 l).length = 9 := by unfold hd9; simp; omega
theorem zu5 {l : Cl} {n : Int} (h : l.length < 9) : (hd9 l).set l.length n = hd9 (l ++ [n]) := by
 unfold hd9
 rw [List.set_append_right _ _ (Nat.le_refl _), Nat.sub_self, show 9 - l.length = (9 - (l.length + 1)) + 1 by omega, List.replicate_succ, List.set_cons_zero, List.length_append, List.length_singleton, List.append_assoc]
 rfl
theorem zrr {l : Cl} (hl : ∀ n ∈ l, 0 ≤ n ∧ n ≤ 2147483647) : ∀ n ∈ hd9 l, 0 ≤ n ∧ n ≤ 2147483647 := fun n hn => by
 unfold hd9 at hn
 rcases List.mem_append.1 hn with h | h
 ·exact hl n h
 ·have := List.eq_of_mem_replicate h; omega
theorem zwA {l : Cl} (h : l.length = 9) : ∃ a0 a1 a2 a3 a4 a5 a6 a7 a8, l = [a0, a1, a2, a3, a4, a5, a6, a7, a8] := by
 match l, h with
 | [a0, a1, a2, a3, a4, a5, a6, a7, a8], _ => exact ⟨_, _, _, _, _, _, _, _, _, rfl⟩
theorem zrs {s : S} {a b : Nat} {n : Int} (h : ze1 s a = .ok (n, b)) : b ≤ s.length := by
 unfold ze1 at h
 split at h
 ·rename_i h1
  simp only [Except.ok.injEq, Prod.mk.injEq] at h
  rw [← h.2]
  revert h1
  unfold zh4
  have hl : ((s.drop (a : Int).toNat).takeWhile zV).length ≤ (s.drop (a : Int).toNat).length := (List.takeWhile_sublist _).length_le
  rw [List.length_drop] at hl
  split
  ·intro h1; cases h1
  ·rename_i h0
   split
   ·intro _
    dsimp only
    omega
   ·intro h1; cases h1
 ·cases h
theorem zu6 {l : Cl} {n : Int} (h : l.length < 9) : List.take (l.length * 1) ((hd9 l).map vi) ++ [vi n] ++ List.drop (l.length * 1 + 1) ((hd9 l).map vi) = (hd9 (l ++ [n])).map vi := by
 have hl := zhZ (l := l) (by omega)
 rw [← zu5 h, List.map_set, List.set_eq_take_append_cons_drop, if_pos (by rw [List.length_map]; omega), Nat.mul_one]
 simp
theorem zmI {s : S} : ∀ {k a : Nat} {l l' : Cl} {b : Nat}, zdq s k a l = .ok (l', b) → (∀ n ∈ l, 0 ≤ n ∧ n ≤ 2147483647) → l.length + k ≤ 9 → (∀ n ∈ l', 0 ≤ n ∧ n ≤ 2147483647) ∧ l'.length ≤ 9
 | 0, a, l, l', b, h, hl, hk => by
  simp only [zdq, Except.ok.injEq, Prod.mk.injEq] at h
  obtain ⟨rfl, rfl⟩ := h
  exact ⟨hl, by omega⟩
 | k + 1, a, l, l', b, h, hl, hk => by
  unfold zdq at h
  split at h
  ·cases hn : ze1 s (a + 1) with
   | error e => rw [hn] at h; cases h
   | ok v =>
    obtain ⟨n, c⟩ := v
    rw [hn] at h
    dsimp only at h
    have := zdQ hn
    refine zmI h (fun x hx => ?_) (by rw [List.length_append, List.length_singleton]; omega)
    rcases List.mem_append.1 hx with h | h
    ·exact hl x h
    ·rw [List.mem_singleton] at h; subst h; exact this
  ·simp only [Except.ok.injEq, Prod.mk.injEq] at h
   obtain ⟨rfl, rfl⟩ := h
   exact ⟨hl, by omega⟩
theorem zh0 {s magic : S} {l : Cl} {b : Nat} (h : ze2 s magic = .ok (l, b)) : ∃ a0 a1 a2 a3 a4 a5 a6, l = [a0, a1, a2, a3, a4, a5, a6, 0, 0] ∧ 0 ≤ a0 ∧ 0 ≤ a1 ∧ 0 ≤ a2 ∧ 0 ≤ a3 ∧ 0 ≤ a4 ∧ 0 ≤ a5 ∧ 0 ≤ a6 ∧ a0 ≤ 4000 ∧ a1 + a2 + a4 ≤ a0 ∧ a3 + a5 + a6 ≤ 4000 := by
 unfold ze2 at h
 split at h
 ·cases hL : zdq s 9 magic.length [] with
  | error e => rw [hL] at h; cases h
  | ok v =>
   obtain ⟨l', a⟩ := v
   rw [hL] at h
   dsimp only at h
   obtain ⟨b1, b2⟩ := zmI hL (fun n hn => by cases hn) (by decide)
   split at h
   ·cases hb : zfV s 10 a with
    | error e => rw [hb] at h; cases h
    | ok c =>
     rw [hb] at h
     dsimp only at h
     split at h
     ·rename_i h78
      split at h
      ·rename_i hlim
       simp only [Except.ok.injEq, Prod.mk.injEq] at h
       obtain ⟨rfl, rfl⟩ := h
       have h9 := zrr b1
       obtain ⟨a0, a1, a2, a3, a4, a5, a6, a7, a8, hq⟩ := zwA (zhZ b2)
       rw [hq] at h78 hlim h9 ⊢
       have e7 : a7 = 0 := h78.1
       have e8 : a8 = 0 := h78.2
       subst e7 e8
       have hlim : (decide (a0 ≤ 4000) && decide (a1 + a2 + a4 ≤ a0) && decide (a3 + a5 + a6 ≤ 4000)) = true := hlim
       simp only [Bool.and_eq_true, decide_eq_true_eq] at hlim
       have c0 := h9 a0 (by simp); have c1 := h9 a1 (by simp); have c2 := h9 a2 (by simp); have c3 := h9 a3 (by simp); have c4 := h9 a4 (by simp); have c5 := h9 a5 (by simp); have c6 := h9 a6 (by simp)
       exact ⟨a0, a1, a2, a3, a4, a5, a6, rfl, by omega, by omega, by omega, by omega, by omega, by omega, by omega, by omega, by omega, by omega⟩
      ·cases h
     ·cases h
   ·cases h
 ·cases h
abbrev hR (k : Nat) (s : S) (a : Nat) (T : List V) (h X : H) : H := h.set k (rdT s a T) ++ X
theorem zkL {k a : Nat} {s : S} {T : List V} {h X : H} (hk : k < h.length) : (hR k s a T h X)[k]? = some (rdT s a T) := by
 rw [hR, List.getElem?_append_left (by simpa using hk), List.getElem?_set_self hk]
theorem zmJ {k a b : Nat} {s : S} {T : List V} {h X : H} (hk : k < h.length) : (hR k s a T h X).set k (rdT s b T) = hR k s b T h X := by
 rw [hR, hR, List.set_append_left _ _ (by simpa using hk), List.set_set]
theorem zdy {k a : Nat} {s : S} {T : List V} {h : H} {o : O} : (hR k s a T h [o])[h.length]? = some o := by
 rw [hR, List.getElem?_append_right (by simp)]; simp
theorem zt2 {k a : Nat} {s : S} {T : List V} {h : H} {o q : O} : (hR k s a T h [o]).set h.length q = hR k s a T h [q] := by
 rw [hR, hR, List.set_append_right _ _ (by simp)]; simp
theorem zxg {k a : Nat} {s : S} {T : List V} {h X : H} (hk : h[k]? = some (rdT s a T)) : h ++ X = hR k s a T h X := by
 rw [hR, zlc hk]
set_option maxHeartbeats 4000000 in
theorem zeU {k a0 : Nat} {s magic : S} {T : List V} {h : H} (hk : h[k]? = some (rdT s a0 T)) (hs : s.length ≤ 100000) {R : AEnd → H → (Nat → Bool) → Prop}
 (h1 : ∀ l b, ze2 s magic = .ok (l, b) → R (.ret (.agg (l.map vi))) (hR k s b T h [.cells (l.map vi)]) (fun _ => false))
 (h2 : ∀ (w : Nat) (e : Int), ze2 s magic = .error (w, e) → ∀ b X, R (.pan (zaR w e)) (hR k s b T h X) (fun _ => false)) :
 zb TE 68 [.lp k 0, .str magic] h R := by
 have hM : maxLen = 9223372036854775807 := rfl
 have hkl : k < h.length := (List.getElem?_eq_some_iff.1 hk).1
 have hne : k ≠ h.length := by omega
 unfold ze2 at h1 h2
 refine zb.kp (fun _ => false) ?_
 refine zh Tryz.func68 rfl (by simp [nts]) ?_
 refine za (vm ?_)
 simp only [wq.down, Nat.reduceLT, Tryz.results68]
 rw [zxg hk]
 refine za (vm ?_)
 simp only [wq.down, seval, zkL hkl]
 refine zb.ev (zph s magic) rfl ?_
 simp only [wq.down, seval]
 refine zz _ 0 2 (fun hb => ?_) (fun hb => ?_)
 ·rw [if_pos hb] at h1 h2
  have hml : magic.length ≤ s.length := by rw [List.isPrefixOf_iff_prefix] at hb; exact hb.length_le
  simp only [wq.down]
  refine za (vm ?_)
  simp only [wq.down, seval, zkL hkl, zmJ hkl]
  refine za (vm ?_)
  simp only [wq.down, Nat.reduceLT]
  refine za (zP (Q := fun xe f h' => (xe = .normal ∧ ∃ l a, zdq s 9 magic.length [] = .ok (l, a) ∧ a ≤ s.length ∧ l.length ≤ 9 ∧ (∀ n ∈ l, 0 ≤ n ∧ n ≤ 2147483647) ∧ f.t 0 = .lp k 0 ∧ f.t 4 = .lp h.length 0 ∧ f.t 5 = vi l.length ∧ f.d = [] ∧ (∀ j, f.k j = true → False) ∧ h' = hR k s a T h [.cells ((hd9 l).map vi)]) ∨ (∃ (w : Nat) (e : Int), xe = .pan (zaR w e) ∧ zdq s 9 magic.length [] = .error (w, e) ∧ f.d = [] ∧ (∀ j, f.k j = true → False) ∧ ∃ b X, h' = hR k s b T h X)) ?_ ?_)
  ·rintro xe f h' (⟨rfl, l, a, hL, has, hl9, hlb, t0, t4, t5, hd, hk', rfl⟩ | ⟨w, e, rfl, hL, hd, hk', b, X, rfl⟩)
   ·rw [hL] at h1 h2
    dsimp only at h1 h2
    show awp _ _ _ _ _ _ _
    refine za (vm ?_)
    simp only [wq.down, seval, t0, t5, zkL hkl]
    refine zz _ _ 2 (fun hb5 => ?_) (fun hb5 => ?_)
    ·have hb5' : 5 ≤ l.length := by have := of_decide_eq_true hb5; omega
     rw [if_pos hb5'] at h1 h2
     simp only [wq.down]
     refine za (vm ?_)
     simp only [wq.down, seval, t0]
     refine zci (by omega) (zkL hkl) (fun he => ?_) (fun he => ?_)
     ·unfold zfV at h1 h2
      rw [if_pos he] at h1 h2
      dsimp only at h1 h2
      rw [zmJ hkl]
      have h9 := zrr hlb
      obtain ⟨a0, a1, a2, a3, a4, a5, a6, a7, a8, hq⟩ := zwA (zhZ hl9)
      rw [hq] at h1 h2 h9 ⊢
      have c0 := h9 a0 (by simp); have c1 := h9 a1 (by simp); have c2 := h9 a2 (by simp); have c3 := h9 a3 (by simp); have c4 := h9 a4 (by simp); have c5 := h9 a5 (by simp); have c6 := h9 a6 (by simp)
      simp only [wq.down]
      by_cases h7 : a7 = 0
      ·by_cases h8 : a8 = 0
       ·rw [if_pos ⟨h7, h8⟩] at h1 h2
        subst h7 h8
        refine za (vm ?_)
        simp only [wq.down, ↓reduceIte, Nat.reduceEqDiff, Nat.reduceLT, Nat.reduceLeDiff, Nat.reduceAdd, Nat.reduceSub, Int.reduceToNat, Nat.reduceDiv, Int.reduceLT, Int.reduceLE, Int.reduceNeg, Int.reduceBEq, Int.reduceBNe, Int.reduceAdd, Int.reduceSub, Nat.reduceBEq, reduceCtorEq, Nat.reduceMul, zn, Tryz.results68, t0, t4, t5, hd, zdy]
        refine ⟨by decide, by decide, zz true 0 9 (fun _ => ?_) (fun h => by cases h)⟩
        simp only [wq.down, ↓reduceIte, Nat.reduceEqDiff, Nat.reduceLT, Nat.reduceLeDiff, Nat.reduceAdd, Nat.reduceSub, Int.reduceToNat, Nat.reduceDiv, Int.reduceLT, Int.reduceLE, Int.reduceNeg, Int.reduceBEq, Int.reduceBNe, Int.reduceAdd, Int.reduceSub, Nat.reduceBEq, reduceCtorEq, Nat.reduceMul, zn, Tryz.results68, zS, t0, t4, t5, hd]
        have w1 : IntKind.i64.wrap (a1 + a2) = a1 + a2 := z6 (by omega) (by omega)
        have w2 : IntKind.i64.wrap (a1 + a2 + a4) = a1 + a2 + a4 := z6 (by omega) (by omega)
        have w3 : IntKind.i64.wrap (a3 + a5) = a3 + a5 := z6 (by omega) (by omega)
        have w4 : IntKind.i64.wrap (a3 + a5 + a6) = a3 + a5 + a6 := z6 (by omega) (by omega)
        rw [show zhM [a0, a1, a2, a3, a4, a5, a6, 0, 0] = (decide (a0 ≤ 4000) && decide (a1 + a2 + a4 ≤ a0) && decide (a3 + a5 + a6 ≤ 4000)) from rfl] at h1 h2
        cases b0 : decide (a0 ≤ 4000) with
        | false =>
         rw [b0] at h2
         refine za (vm ?_)
         simp only [wq.down, ↓reduceIte, Nat.reduceEqDiff, Nat.reduceLT, Nat.reduceLeDiff, Nat.reduceAdd, Nat.reduceSub, Int.reduceToNat, Nat.reduceDiv, Int.reduceLT, Int.reduceLE, Int.reduceNeg, Int.reduceBEq, Int.reduceBNe, Int.reduceAdd, Int.reduceSub, Nat.reduceBEq, reduceCtorEq, Nat.reduceMul, zn, Tryz.results68, t0, t4, t5, hd, zdy, b0, w1, w2, w3, w4]
         refine ⟨by decide, zz false 0 8 (fun h => by cases h) (fun _ => ?_)⟩
         simp only [wq.down, ↓reduceIte, Nat.reduceEqDiff, Nat.reduceLT, Nat.reduceLeDiff, Nat.reduceAdd, Nat.reduceSub, Int.reduceToNat, Nat.reduceDiv, Int.reduceLT, Int.reduceLE, Int.reduceNeg, Int.reduceBEq, Int.reduceBNe, Int.reduceAdd, Int.reduceSub, Nat.reduceBEq, reduceCtorEq, Nat.reduceMul, zn, Tryz.results68, zR]
         simp only [XE.seq, zO]
         simp only [wq.down, ↓reduceIte, Nat.reduceEqDiff, Nat.reduceLT, Nat.reduceLeDiff, Nat.reduceAdd, Nat.reduceSub, Int.reduceToNat, Nat.reduceDiv, Int.reduceLT, Int.reduceLE, Int.reduceNeg, Int.reduceBEq, Int.reduceBNe, Int.reduceAdd, Int.reduceSub, Nat.reduceBEq, reduceCtorEq, Nat.reduceMul, zn, Tryz.results68, hd]
         exact ⟨hk', h2 _ _ rfl _ _⟩
        | true =>
         rw [b0] at h1 h2
         cases b1 : decide (a1 + a2 + a4 ≤ a0) with
         | false =>
          rw [b1] at h2
          refine za (vm ?_)
          simp only [wq.down, ↓reduceIte, Nat.reduceEqDiff, Nat.reduceLT, Nat.reduceLeDiff, Nat.reduceAdd, Nat.reduceSub, Int.reduceToNat, Nat.reduceDiv, Int.reduceLT, Int.reduceLE, Int.reduceNeg, Int.reduceBEq, Int.reduceBNe, Int.reduceAdd, Int.reduceSub, Nat.reduceBEq, reduceCtorEq, Nat.reduceMul, zn, Tryz.results68, t0, t4, t5, hd, zdy, b0, b1, w1, w2, w3, w4]
          refine ⟨by decide, by decide, by decide, by decide, by decide, zz false 0 8 (fun h => by cases h) (fun _ => ?_)⟩
          simp only [wq.down, ↓reduceIte, Nat.reduceEqDiff, Nat.reduceLT, Nat.reduceLeDiff, Nat.reduceAdd, Nat.reduceSub, Int.reduceToNat, Nat.reduceDiv, Int.reduceLT, Int.reduceLE, Int.reduceNeg, Int.reduceBEq, Int.reduceBNe, Int.reduceAdd, Int.reduceSub, Nat.reduceBEq, reduceCtorEq, Nat.reduceMul, zn, Tryz.results68, zR]
          simp only [XE.seq, zO]
          simp only [wq.down, ↓reduceIte, Nat.reduceEqDiff, Nat.reduceLT, Nat.reduceLeDiff, Nat.reduceAdd, Nat.reduceSub, Int.reduceToNat, Nat.reduceDiv, Int.reduceLT, Int.reduceLE, Int.reduceNeg, Int.reduceBEq, Int.reduceBNe, Int.reduceAdd, Int.reduceSub, Nat.reduceBEq, reduceCtorEq, Nat.reduceMul, zn, Tryz.results68, hd]
          exact ⟨hk', h2 _ _ rfl _ _⟩
         | true =>
          rw [b1] at h1 h2
          cases b2 : decide (a3 + a5 + a6 ≤ 4000) with
          | false =>
           rw [b2] at h2
           refine za (vm ?_)
           simp only [wq.down, ↓reduceIte, Nat.reduceEqDiff, Nat.reduceLT, Nat.reduceLeDiff, Nat.reduceAdd, Nat.reduceSub, Int.reduceToNat, Nat.reduceDiv, Int.reduceLT, Int.reduceLE, Int.reduceNeg, Int.reduceBEq, Int.reduceBNe, Int.reduceAdd, Int.reduceSub, Nat.reduceBEq, reduceCtorEq, Nat.reduceMul, zn, Tryz.results68, t0, t4, t5, hd, zdy, b0, b1, b2, w1, w2, w3, w4]
           refine ⟨by decide, by decide, by decide, by decide, by decide, by decide, by decide, by decide, zz false 0 8 (fun h => by cases h) (fun _ => ?_)⟩
           simp only [wq.down, ↓reduceIte, Nat.reduceEqDiff, Nat.reduceLT, Nat.reduceLeDiff, Nat.reduceAdd, Nat.reduceSub, Int.reduceToNat, Nat.reduceDiv, Int.reduceLT, Int.reduceLE, Int.reduceNeg, Int.reduceBEq, Int.reduceBNe, Int.reduceAdd, Int.reduceSub, Nat.reduceBEq, reduceCtorEq, Nat.reduceMul, zn, Tryz.results68, zR]
           simp only [XE.seq, zO]
           simp only [wq.down, ↓reduceIte, Nat.reduceEqDiff, Nat.reduceLT, Nat.reduceLeDiff, Nat.reduceAdd, Nat.reduceSub, Int.reduceToNat, Nat.reduceDiv, Int.reduceLT, Int.reduceLE, Int.reduceNeg, Int.reduceBEq, Int.reduceBNe, Int.reduceAdd, Int.reduceSub, Nat.reduceBEq, reduceCtorEq, Nat.reduceMul, zn, Tryz.results68, hd]
           exact ⟨hk', h2 _ _ rfl _ _⟩
          | true =>
           rw [b2] at h1
           refine za (vm ?_)
           simp only [wq.down, ↓reduceIte, Nat.reduceEqDiff, Nat.reduceLT, Nat.reduceLeDiff, Nat.reduceAdd, Nat.reduceSub, Int.reduceToNat, Nat.reduceDiv, Int.reduceLT, Int.reduceLE, Int.reduceNeg, Int.reduceBEq, Int.reduceBNe, Int.reduceAdd, Int.reduceSub, Nat.reduceBEq, reduceCtorEq, Nat.reduceMul, zn, Tryz.results68, t0, t4, t5, hd, zdy, b0, b1, b2, w1, w2, w3, w4]
           refine ⟨by decide, by decide, by decide, by decide, by decide, by decide, by decide, by decide, zz true 0 8 (fun _ => ?_) (fun h => by cases h)⟩
           simp only [wq.down]
           refine za (vm ?_)
           simp only [wq.down, seval, t4, zdy, zt2]
           refine vm ?_
           simp only [wq.down, ↓reduceIte, Nat.reduceEqDiff, Nat.reduceAdd, reduceCtorEq, t4, hd, zdy]
           exact ⟨hk', h1 _ _ rfl⟩
       ·rw [if_neg (fun hh => h8 hh.2)] at h2
        have e8 : (a8 == 0) = false := by simpa using h8
        subst h7
        refine za (vm ?_)
        simp only [wq.down, ↓reduceIte, Nat.reduceEqDiff, Nat.reduceLT, Nat.reduceLeDiff, Nat.reduceAdd, Nat.reduceSub, Int.reduceToNat, Nat.reduceDiv, Int.reduceLT, Int.reduceLE, Int.reduceNeg, Int.reduceBEq, Int.reduceBNe, Int.reduceAdd, Int.reduceSub, Nat.reduceBEq, reduceCtorEq, Nat.reduceMul, zn, Tryz.results68, t0, t4, t5, hd, zdy, e8]
        refine ⟨by decide, by decide, zz false 0 9 (fun h => by cases h) (fun _ => ?_)⟩
        simp only [wq.down, zR]
        simp only [XE.seq, zO]
        simp only [wq.down, hd]
        exact ⟨hk', h2 _ _ rfl _ _⟩
      ·rw [if_neg (fun hh => h7 hh.1)] at h2
       have e7 : (a7 == 0) = false := by simpa using h7
       refine za (vm ?_)
       simp only [wq.down, ↓reduceIte, Nat.reduceEqDiff, Nat.reduceLT, Nat.reduceLeDiff, Nat.reduceAdd, Nat.reduceSub, Int.reduceToNat, Nat.reduceDiv, Int.reduceLT, Int.reduceLE, Int.reduceNeg, Int.reduceBEq, Int.reduceBNe, Int.reduceAdd, Int.reduceSub, Nat.reduceBEq, reduceCtorEq, Nat.reduceMul, zn, Tryz.results68, t0, t4, t5, hd, zdy, e7]
       refine ⟨by decide, zz false 0 9 (fun h => by cases h) (fun _ => ?_)⟩
       simp only [wq.down, zR]
       simp only [XE.seq, zO]
       simp only [wq.down, hd]
       exact ⟨hk', h2 _ _ rfl _ _⟩
     ·unfold zfV at h1 h2
      rw [if_neg (by rw [he]; decide)] at h1 h2
      simp only [wq.down, zR]
      simp only [XE.seq, zO]
      simp only [wq.down, hd]
      exact ⟨hk', h2 _ _ rfl _ _⟩
    ·have hb5' : ¬ 5 ≤ l.length := by have := of_decide_eq_false hb5; omega
     rw [if_neg hb5'] at h1 h2
     simp only [wq.down, zR]
     simp only [XE.seq, zO]
     simp only [wq.down, hd]
     exact ⟨hk', h2 _ _ rfl _ _⟩
   ·rw [hL] at h2
    simp only [XE.seq, zO]
    simp only [wq.down, hd]
    exact ⟨hk', h2 w e rfl b X⟩
  ·refine zj ?_
   refine zt (fun mm f h' => ∃ (l : Cl) (a : Nat), mm + l.length = 9 ∧ zdq s 9 magic.length [] = zdq s (9 - l.length) a l ∧ a ≤ s.length ∧ (∀ n ∈ l, 0 ≤ n ∧ n ≤ 2147483647) ∧ f.t 0 = .lp k 0 ∧ f.t 4 = .lp h.length 0 ∧ f.t 5 = vi l.length ∧ f.d = [] ∧ (∀ j, f.k j = true → False) ∧ h' = hR k s a T h [.cells ((hd9 l).map vi)]) 9 ⟨[], magic.length, rfl, rfl, hml, (fun n hn => by cases hn), by simp only [wq.down, seval], by simp only [wq.down, seval], rfl, rfl, (fun j hj => by cases hj), rfl⟩ ?_
   rintro mm f h' ⟨l, a, hm, hL, has, hlb, t0, t4, t5, hd, hk', rfl⟩
   by_cases hl9 : l.length < 9
   ·have e1 : decide ((l.length : Int) < 9) = true := by simp; omega
    obtain ⟨j, hj⟩ : ∃ j, 9 - l.length = j + 1 := ⟨8 - l.length, by omega⟩
    rw [hj, show zdq s (j + 1) a l = (if zfL s a 32 = true then (match ze1 s (a + 1) with
     | .ok (n, b) => zdq s j b (l ++ [n])
     | .error e => .error e) else .ok (l, a)) from rfl] at hL
    refine za ?_
    refine vm ?_
    simp only [wq.down, seval, t0, t5, e1]
    refine zf3 32 (zkL hkl) ?_
    simp only [wq.down, seval]
    cases hi : zfL s a 32 with
    | true =>
     have hlt := zhE hi
     have hw := zi (show a < maxLen by omega)
     have hwl := zi (show l.length < maxLen by omega)
     rw [if_pos hi] at hL
     simp only [wq.down]
     refine za (zj ?_)
     refine za (vm ?_)
     simp only [wq.down, seval, t0, zkL hkl, zmJ hkl, hw]
     refine vm ?_
     simp only [wq.down, seval, t0, t5]
     refine za8 hs (zkL hkl) (fun n b hn => ?_) (fun hn => ?_)
     ·rw [hn] at hL
      have hnn := zdQ hn
      rw [zmJ hkl]
      have hb : b ≤ s.length := zrs hn
      simp only [wq.down, seval, t4, zdy]
      refine ⟨⟨by omega, by omega⟩, by rw [zhZ (by omega)]; omega, ?_⟩
      refine vm ?_
      simp only [wq.down, seval, t5, hwl, zt2]
      rw [zu6 hl9]
      refine .inl ⟨mm - 1, by omega, l ++ [n], b, by rw [List.length_append, List.length_singleton]; omega, ?_, hb, ?_, by simp only [wq.down, seval, t0], by simp only [wq.down, seval, t4], by simp only [wq.down, ↓reduceIte], by simp only [wq.down, hd], hk', rfl⟩
      ·rw [hL, List.length_append, List.length_singleton, show 9 - (l.length + 1) = j by omega]
      ·intro x hx
       rcases List.mem_append.1 hx with h | h
       ·exact hlb x h
       ·rw [List.mem_singleton] at h; subst h; exact hnn
     ·rw [hn] at hL
      simp only [wq.down, zR, hd]
      simp only [XE.block, XE.seq]
      simp only [wq.down, seval, hd]
      exact .inr ⟨_, _, rfl, hL, hk', _, _, rfl⟩
    | false =>
     rw [if_neg (by rw [hi]; decide)] at hL
     simp only [wq.down, seval, t0, t4, t5, hd]
     exact .inl ⟨l, a, hL, has, by omega, hlb, rfl, hk', rfl⟩
   ·have e1 : decide ((l.length : Int) < 9) = false := by simp; omega
    have hl : l.length = 9 := by omega
    rw [hl] at hL
    refine za ?_
    refine vm ?_
    simp only [wq.down, seval, t0, t5, e1]
    refine ⟨.bool true, ?_⟩
    simp only [wq.down, seval, t0, t4, t5, hd]
    exact .inl ⟨l, a, hL, has, by omega, hlb, rfl, hk', rfl⟩
 ·rw [if_neg (by rw [hb]; decide)] at h2
  simp only [wq.down, zR]
  simp only [XE.seq, zO]
  simp only [wq.down]
  exact h2 _ _ rfl _ _
theorem zcG {s : S} {k : Nat} {h : H} {K : H → (Nat → Bool) → Prop} (hK : ∀ X, K (h ++ [X]) (fun _ => false)) : zcy TE 67 [.str s, .lp k 0] h K := by
 have hgE : ∀ x : O, (h ++ [x])[h.length]? = some x := fun x => by simp
 have hgS : ∀ x y : O, (h ++ [x]).set h.length y = h ++ [y] := fun x y => by simp
 refine zgs rfl Tryz.func67 rfl rfl (by simp [nts]) rfl (fun ev w => rfl) rfl (by decide) ?_
 simp only [nts]
 refine zah rfl rfl ?_
 refine zfD (x := .tmp 7) (t := 198) (q := ⟨.struct [(0, 3), (1, 31)], 2, 16, .agg [vi 0, vi 0]⟩) rfl (by simp only [wq.down]) (by simp only [wq.down, ↓reduceIte]) (by simp only [wq.down, ↓reduceIte]) ?_
 refine zm rfl rfl ?_
 simp only [wq.down, ↓reduceIte]
 refine zm rfl rfl ?_
 simp only [wq.down, seval]
 refine zm rfl rfl ?_
 simp only [wq.down, seval]
 refine zm rfl rfl ?_
 simp only [wq.down]
 refine zm rfl rfl ?_
 simp only [wq.down, seval, hgE, hgS]
 refine zm rfl rfl ?_
 simp only [wq.down, seval]
 refine zax ?_
 show awp _ _ _ _ _ _ _
 refine vm ?_
 simp only [wq.down, seval]
 exact hK _
theorem zdR {s : S} {k : Nat} {h : H} {d1 d2 d3 : V} {K : H → (Nat → Bool) → Prop} (a : Nat) (e : Int) (hs : s.length ≤ 1000000000) (hk : h[k]? = some (.cells [d1, d2, d3])) (hK : ∀ X, K (h.set k (.cells (zW s a e).vc) ++ [X]) (fun _ => false)) :
 zfB TE 67 [.str s, .lp k 0] (zaR a e) h K := by
 have hgE : ∀ x : O, (h ++ [x])[h.length]? = some x := fun x => by simp
 have hgS : ∀ x y : O, (h ++ [x]).set h.length y = h ++ [y] := fun x y => by simp
 have hkl : k < h.length := (List.getElem?_eq_some_iff.1 hk).1
 have hgk : ∀ x : O, (h ++ [x])[k]? = some (.cells [d1, d2, d3]) := fun x => by rw [List.getElem?_append_left hkl]; exact hk
 have hsk : ∀ x y : O, (h ++ [x]).set k y = h.set k y ++ [x] := fun x y => by rw [List.set_append_left _ _ hkl]
 refine zgr rfl Tryz.func67 rfl rfl (by simp [nts]) rfl (fun ev w => rfl) rfl (by decide) ?_
 simp only [nts]
 refine zm rfl rfl ?_
 simp only [wq.down, ↓reduceIte]
 refine ⟨by decide, ?_⟩
 refine zm rfl rfl ?_
 simp only [wq.down, ↓reduceIte]
 refine zm rfl rfl ?_
 simp only [wq.down, seval]
 refine zm rfl rfl ?_
 simp only [wq.down, seval]
 refine zm rfl rfl ?_
 simp only [wq.down]
 refine zm rfl rfl ?_
 simp only [wq.down, seval, hgE, hgS]
 refine zm rfl rfl ?_
 simp only [wq.down, seval]
 refine zax ?_
 show awp _ _ _ _ _ _ _
 have hf : ∃ x y z, zW s a e = .agg [vi x, vi y, vi z] := by unfold zW; split <;> exact ⟨_, _, _, rfl⟩
 obtain ⟨x, y, z, hf⟩ := hf
 rw [hf] at hK
 have hsf := zsE s a e hs
 rw [hf] at hsf
 refine za (vm ?_)
 simp only [wq.down, seval]
 refine vm ?_
 simp only [wq.down, seval, hgE]
 refine zb.ev hsf rfl ?_
 simp only [wq.down, seval, hgk, hsk]
 exact hK _
theorem zgw {k a : Nat} {s : S} {T : List V} {h : H} {R : AEnd → H → (Nat → Bool) → Prop} (ha : a ≤ s.length) (hk : h[k]? = some (rdT s a T))
 (hr : R (.ret (.bool (zpD s a))) h (fun _ => false)) : zb TE 131 [.lp k 0] h R := by
 have hp := zph (s.drop a) [99, 10]
 unfold zpD at hr
 cases hb : ([99, 10] : S).isPrefixOf (s.drop a) with
 | true =>
  rw [hb] at hp hr
  refine zh Tryz.func131 rfl (by simp [nts]) (vm ?_)
  simp only [wq.down, seval, Tryz.results131, hk]
  refine ⟨by decide +kernel, ⟨by omega, by omega⟩, zjY.mk hp rfl rfl ?_⟩
  simp only [wq.down, seval, hk]
  exact hr
 | false =>
  rw [hb] at hp hr
  refine zh Tryz.func131 rfl (by simp [nts]) (vm ?_)
  simp only [wq.down, seval, Tryz.results131, hk]
  refine ⟨by decide +kernel, ⟨by omega, by omega⟩, zjY.mk hp rfl rfl ?_⟩
  simp only [wq.down, seval, hk]
  exact ⟨⟨by omega, by omega⟩, hr⟩
theorem zh1 (c : UInt8) : ∀ l : S, Lib.indexByte l c = (match l.findIdx? (· == c) with | some i => (i : Int) | none => -1)
 | [] => rfl
 | b :: l => by
  unfold Lib.indexByte
  rw [List.findIdx?_cons, zh1 c l]
  by_cases hb : (b == c) = true
  ·rw [if_pos hb, if_pos hb]
   rfl
  ·rw [if_neg hb, if_neg hb]
   cases h : l.findIdx? (· == c) with
   | none => rfl
   | some i =>
    show (if ((i : Int) == -1) = true then (-1 : Int) else (i : Int) + 1) = _
    rw [if_neg (by simp)]
    rfl
theorem zrt {c : UInt8} (h : znF c = none) : Lib.indexByte [105, 108, 111, 98, 99] c = -1 := by
 unfold znF at h
 rw [zh1, h]
theorem zjS {c : UInt8} {k : Nat} (h : znF c = some k) : Lib.indexByte [105, 108, 111, 98, 99] c = k ∧ k < 5 := by
 unfold znF at h
 rw [zh1, h]
 exact ⟨rfl, (List.findIdx?_eq_some_iff_getElem.1 h).1⟩
abbrev rwS (L : List (List S)) (k : Nat) : O := .cells ((L.getD k []).map V.str)
abbrev lsS (L : List (List S)) (k : Nat) : V := .ls (3 + k) 1 0 (L.getD k []).length (L.getD k []).length
abbrev hS (many : Cl) (s : S) (a : Nat) (L : List (List S)) : H :=
 [.cells (many.map vi), .cells [lsS L 0, lsS L 1, lsS L 2, lsS L 3, lsS L 4], .cells [vi 0, vi 0, vi 0], rwS L 0, rwS L 1, rwS L 2, rwS L 3, rwS L 4, rdT s a []]
theorem zwB {L : List (List S)} (h : L.length = 5) : ∃ l0 l1 l2 l3 l4, L = [l0, l1, l2, l3, l4] := by
 match L, h with
 | [l0, l1, l2, l3, l4], _ => exact ⟨_, _, _, _, _, rfl⟩
theorem zu7 {L : List (List S)} {k : Nat} (hk : k < 5) : [lsS L 0, lsS L 1, lsS L 2, lsS L 3, lsS L 4].getD (k * 1) V.any = lsS L k := by
 rcases k with _|_|_|_|_|k <;> first | rfl | omega
theorem zt3 {many : Cl} {s : S} {a : Nat} {L : List (List S)} {k : Nat} (hk : k < 5) : (hS many s a L)[3 + k]? = some (rwS L k) := by
 rcases k with _|_|_|_|_|k <;> first | rfl | omega
theorem zt4 {many : Cl} {s : S} {a : Nat} {L : List (List S)} {k N : Nat} {nm : S} (hL : L.length = 5) (hk : k < 5) : (hS many s a L).set (3 + k) (.cells (((L.getD k []).set N nm).map V.str)) = hS many s a (L.set k ((L.getD k []).set N nm)) := by
 obtain ⟨l0, l1, l2, l3, l4, rfl⟩ := zwB hL
 rcases k with _|_|_|_|_|k
 ·simp [hS, lsS, rwS]
 ·simp [hS, lsS, rwS]
 ·simp [hS, lsS, rwS]
 ·simp [hS, lsS, rwS]
 ·simp [hS, lsS, rwS]
 ·omega
theorem zru {l : List S} {N : Nat} {nm : S} (h : N < l.length) : List.take (N * 1) (l.map V.str) ++ [V.str nm] ++ List.drop (N * 1 + 1) (l.map V.str) = (l.set N nm).map V.str := by
 rw [List.map_set, List.set_eq_take_append_cons_drop, if_pos (by rw [List.length_map]; omega), Nat.mul_one]
 simp
def zrv : Plan := .take 0 <| .take 2 <| .take 3 <| .take 4 <| .alt 1 (.one 5 <| .one 6 <| .fin) (.one 5 (.one 1 <| .one 6 <| .fin))
set_option maxHeartbeats 4000000 in
theorem zkM {many : Cl} {s : S} {L : List (List S)} {a : Nat} (hL : L.length = 5) (hLb : ∀ l ∈ L, l.length ≤ 4000) (hs : s.length ≤ 100000) (ha : a < s.length) {R : AEnd → H → (Nat → Bool) → Prop}
 (h1 : ∀ L' b, zeF s L a = .ok (L', b) → R (.ret (.tup [])) (hS many s b L') (fun _ => false))
 (h2 : ∀ (w : Nat) (e : Int), zeF s L a = .error (w, e) → ∀ b, R (.pan (zaR w e)) (hS many s b L) (fun _ => false)) : zb TE 132 [.lp 8 0, .lp 1 0] (hS many s a L) R := by
 have hM : maxLen = 9223372036854775807 := rfl
 have hga : s.getD a 0 = s[a] := zA ha
 have hib := zwh [105, 108, 111, 98, 99] (s[a].toNat) (UInt8.toNat_lt _)
 rw [UInt8.ofNat_toNat] at hib
 unfold zeF at h1 h2
 rw [hga] at h1 h2
 refine zb.kp (fun _ => false) ?_
 refine zh Tryz.func132 rfl (by simp [nts]) ?_
 refine za (vm ?_)
 simp only [wq.down, seval, Tryz.results132]
 refine za ?_
 refine vm ?_
 simp only [wq.down, seval, hga]
 refine ⟨by decide +kernel, ⟨by omega, by omega⟩, zjY.mk hib rfl rfl ?_⟩
 simp only [wq.down, seval]
 cases hk : znF s[a] with
 | none =>
  rw [hk] at h2
  rw [zrt hk]
  refine za (vm ?_)
  simp only [wq.down, seval]
  refine zz false _ 2 (fun h => by cases h) (fun _ => ?_)
  simp only [wq.down, Int.reduceNeg, zR]
  simp only [XE.seq, zO]
  simp only [wq.down, Int.reduceNeg]
  exact h2 _ _ rfl _
 | some k =>
  rw [hk] at h1 h2
  dsimp only at h1 h2
  obtain ⟨hki, hk5⟩ := zjS hk
  have hk0 : decide ((0 : Int) ≤ (k : Int)) = true := by simp
  have hw := zi (show a < maxLen by omega)
  rw [hki]
  refine za (vm ?_)
  simp only [wq.down, seval, hk0]
  refine zz true _ 2 (fun _ => ?_) (fun h => by cases h)
  simp only [wq.down]
  refine za (vm ?_)
  simp only [wq.down, seval, hw]
  refine za (vm ?_)
  simp only [wq.down, seval]
  refine za (vm ?_)
  simp only [wq.down, seval]
  refine za8 (k := 8) (a := a + 1) (s := s) (T := []) hs rfl (fun n b hn => ?_) (fun hn => ?_)
  ·rw [hn] at h1 h2
   dsimp only at h1 h2
   have hnn := zdQ hn
   have hbl := zrs hn
   simp only [wq.down, seval]
   refine za (vm ?_)
   simp only [wq.down, seval]
   refine zbV (k := 8) (s := s) (a := b) (T := []) (by omega) rfl (fun hb => ?_) (fun hb => ?_)
   ·unfold zfV at h1 h2
    rw [if_pos hb] at h1 h2
    dsimp only at h1 h2
    have hblt := zhE hb
    have hcut := zwi (s.drop (b + 1)) 10 (by rw [List.length_drop]; omega)
    obtain ⟨nm, hnm⟩ : ∃ nm, nm = (s.drop (b + 1)).takeWhile (· != 10) := ⟨_, rfl⟩
    rw [← hnm] at h1 h2
    simp only [wq.down]
    refine za ?_
    refine vm ?_
    simp only [wq.down, seval]
    rcases zfM 10 (s.drop (b + 1)) with ⟨m1, m2, m3⟩ | ⟨m1, m2⟩
    ·have hcv : ztN (s.drop (b + 1)) 10 = .tup [.str (s.drop (b + 1)), .str [], .bool false] := by unfold ztN; rw [if_pos (by omega)]
     rw [hcv] at hcut
     rw [← hnm] at m3
     have hge : ¬ b + 1 + nm.length < s.length := by rw [m3, List.length_drop]; omega
     rw [if_neg hge] at h2
     refine ⟨by decide +kernel, ⟨by omega, by omega⟩, zjY.mk hcut rfl rfl ?_⟩
     simp only [wq.down, seval]
     refine za (vm ?_)
     simp only [wq.down, seval]
     refine zz false _ 2 (fun h => by cases h) (fun _ => ?_)
     simp only [wq.down, zR]
     simp only [XE.seq, zO]
     simp only [wq.down]
     exact h2 _ _ rfl _
    ·have hcv : ztN (s.drop (b + 1)) 10 = .tup [.str nm, .str ((s.drop (b + 1)).drop (nm.length + 1)), .bool true] := by unfold ztN; rw [if_neg (by omega), hnm]
     rw [hcv] at hcut
     rw [← hnm] at m1 m2
     rw [List.length_drop] at m2
     have hlt : b + 1 + nm.length < s.length := by omega
     rw [if_pos hlt] at h1 h2
     refine ⟨by decide +kernel, ⟨by omega, by omega⟩, zjY.mk hcut rfl rfl ?_⟩
     simp only [wq.down, seval]
     refine za (vm ?_)
     simp only [wq.down, seval]
     refine zz true _ 2 (fun _ => ?_) (fun h => by cases h)
     simp only [wq.down]
     obtain ⟨N, rfl⟩ : ∃ N : Nat, n = N := ⟨n.toNat, by omega⟩
     have hls := zu7 (L := L) hk5
     have hrw := zt3 (many := many) (s := s) (a := b + 1) (L := L) hk5
     have hset := zt4 (many := many) (s := s) (a := b + 1) (L := L) (N := N) (nm := nm) hL hk5
     obtain ⟨l, hl⟩ : ∃ l, l = L.getD k [] := ⟨_, rfl⟩
     have hll : l.length ≤ 4000 := by
      rw [hl, zA (by omega)]; exact hLb _ (List.getElem_mem _)
     unfold rwS at hrw
     unfold lsS at hls
     rw [← hl] at h1 h2 hls hrw hset
     obtain ⟨H, hH⟩ : ∃ H, H = hS many s (b + 1) L := ⟨_, rfl⟩
     have H1 : H[1]? = some (.cells [lsS L 0, lsS L 1, lsS L 2, lsS L 3, lsS L 4]) := by rw [hH]; rfl
     have H8 : H[8]? = some (rdT s (b + 1) []) := by rw [hH]; rfl
     show awp _ _ _ _ _ _ (hS many s (b + 1) L)
     rw [← hH] at hrw hset ⊢
     by_cases hnl : N < l.length
     ·have hnl' : decide ((N : Int) < (l.length : Int)) = true := by simpa using hnl
      rw [if_pos (by omega)] at h1 h2
      rw [Int.toNat_natCast] at h1 h2
      have hsn : (l.map V.str).getD (N * 1) V.any = V.str l[N] := by rw [Nat.mul_one]; simp [List.getD_eq_getElem?_getD, hnl]
      have hgN : l.getD N [] = l[N] := zA hnl
      refine za (vm ?_)
      simp only [wq.down, seval, H1, hls, hnl']
      refine ⟨⟨by omega, by omega⟩, by omega, ?_⟩
      refine zz true _ 1 (fun _ => ?_) (fun h => by cases h)
      simp only [wq.down]
      have hnmE := zla nm
      refine za (zbk mixed zrv (fun f' h' => zba nm = true ∧ f'.t 0 = .lp 8 0 ∧ f'.t 1 = .lp 1 0 ∧ f'.t 4 = vi a ∧ f'.t 5 = vi k ∧ f'.t 7 = vi N ∧ f'.t 8 = .str nm ∧ f'.d = [] ∧ (∀ j, f'.k j = true → False) ∧ h' = H) [] (fun v d kk t h' => d = [] ∧ (∀ j, kk j = true → False) ∧ zba nm = false ∧ v = zaR ((b + 1 : Nat) : Int) 4 ∧ h' = H) (by decide +kernel) (by decide +kernel) ?_ ?_ ?_)
      ·simp only [wq.down, seval, zrv, H8]
       repeat' apply And.intro
       all_goals
        refine zb.ev hnmE rfl ?_
        simp only [wq.down, seval, H8]
        refine zz _ _ 4 (fun hb => ?_) (fun hb => ?_)
        ·simp only [wq.down, seval, zbl]
         exact hb
        ·simp only [wq.down, zR, zc3]
         exact hb
      ·rintro f' h' ⟨hok, t0, t1, t4, t5, t7, t8, hd, hkk, rfl⟩
       show awp _ _ _ _ _ _ _
       rw [if_pos hok, hgN] at h1 h2
       refine za (vm ?_)
       simp only [wq.down, seval, H1, hls, hrw, hsn, t1, t4, t5, t7]
       refine ⟨⟨by omega, by omega⟩, by omega, ⟨by omega, by omega⟩, by omega, zz _ _ 5 (fun hb => ?_) (fun hb => ?_)⟩
       ·have hb' : l[N] = [] := eq_of_beq hb
        rw [if_pos hb'] at h1
        simp only [wq.down]
        refine za (vm ?_)
        simp only [wq.down, seval, H1, hls, hrw, t1, t5, t7, t8]
        refine ⟨⟨by omega, by omega⟩, by omega, ⟨by omega, by omega⟩, by omega, ?_⟩
        rw [zru hnl, hset]
        have w1 := zi (show nm.length < maxLen by omega)
        have w2 : IntKind.i64.wrap (((b + 1 : Nat) : Int) + ((nm.length + 1 : Nat) : Int)) = ((b + 1 + nm.length + 1 : Nat) : Int) := by rw [z6 (by omega) (by omega)]; omega
        refine vm ?_
        simp only [wq.down, seval, t0, t8, hd, w1, w2]
        exact ⟨hkk, h1 _ _ rfl⟩
       ·have hb' : l[N] ≠ [] := by simpa using hb
        rw [if_neg hb'] at h2
        simp only [wq.down, zR]
        simp only [XE.seq, zO]
        simp only [wq.down, hd]
        refine ⟨hkk, ?_⟩
        rw [hH]
        exact h2 _ _ rfl _
      ·rintro v f' h' ⟨hd, hkk, hok, rfl, rfl⟩
       rw [if_neg (by rw [hok]; decide)] at h2
       simp only [XE.seq, zO]
       simp only [wq.down, hd]
       refine ⟨hkk, ?_⟩
       rw [hH]
       exact h2 _ _ rfl _
     ·have hnl' : decide ((N : Int) < (l.length : Int)) = false := by simpa using hnl
      rw [if_neg (by omega)] at h2
      refine za (vm ?_)
      simp only [wq.down, seval, H1, hls, hnl']
      refine ⟨⟨by omega, by omega⟩, by omega, ?_⟩
      refine zz false _ 1 (fun h => by cases h) (fun _ => ?_)
      simp only [wq.down, zR]
      simp only [XE.seq, zO]
      simp only [wq.down]
      rw [hH]
      exact h2 _ _ rfl _
   ·unfold zfV at h2
    rw [if_neg (by rw [hb]; decide)] at h2
    simp only [wq.down, zR]
    simp only [XE.seq, zO]
    simp only [wq.down]
    exact h2 _ _ rfl _
  ·rw [hn] at h2
   simp only [wq.down, zR]
   simp only [XE.seq, zO]
   simp only [wq.down]
   exact h2 _ _ rfl _
end Go.Proofs.YtboolnpmlmgpkaaGreatDoor
