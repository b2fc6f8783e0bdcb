/- Functions of the program, part 5. -/
import Derived.Test.YtegnjoonhabicaaF4
import Derived.Test.YtegnjoonhabicaaA9
set_option linter.unusedVariables false
set_option linter.unusedSimpArgs false
set_option linter.unnecessarySimpa false
namespace Go.Proofs.Ytegnjoonhabicaa
open Go Go.Proofs Go.Abs

/-- How many literals do not hold yet. -/
def many (l : List Cl) (ks : Cl) : Nat := (l.flatten.filter fun a => !ks.contains a).length

theorem filter_lt {α : Type} {p q : α → Bool} : ∀ {l : List α}, (∀ x, q x = true → p x = true) → (∃ x ∈ l, p x = true ∧ q x = false) → (l.filter q).length < (l.filter p).length
  | [], _, ⟨x, hx, _⟩ => by cases hx
  | y :: l, hq, ⟨x, hx, h1, h2⟩ => by
    have hle : (l.filter q).length ≤ (l.filter p).length := by
      clear hx
      induction l with
      | nil => simp
      | cons z l ih =>
        simp only [List.filter_cons]
        cases hz : q z with
        | true => simp [hq z hz]; exact ih
        | false =>
          cases p z <;> simp <;> omega
    simp only [List.filter_cons]
    by_cases hxy : x = y
    · subst hxy
      simp [h1, h2]; omega
    · have hm : x ∈ l := by cases hx with | head => exact absurd rfl hxy | tail _ h => exact h
      have := filter_lt (l := l) hq ⟨x, hm, h1, h2⟩
      cases hz : q y with
      | true => simp [hq y hz]; exact this
      | false => cases p y <;> simp <;> omega

theorem many_lt {l : List Cl} {ks : Cl} {a : Int} {c : Cl} (hc : c ∈ l) (ha : a ∈ c) (hn : ¬ a ∈ ks) : many l (ks ++ [a]) < many l ks := by
  refine filter_lt (fun x hx => ?_) ⟨a, List.mem_flatten.2 ⟨c, hc, ha⟩, by simp [hn], by simp⟩
  simp only [Bool.not_eq_true', List.contains_eq_mem, decide_eq_false_iff_not, List.mem_append, not_or] at hx ⊢
  exact hx.1

/-- What the one literal is. -/
theorem unitF_mem {ks : Cl} : ∀ {c : Cl} {one : Int}, (unitF ks one c).1 ≠ 0 → (one ≠ 0 → ¬ one ∈ ks ∧ ¬ -one ∈ ks) → ((unitF ks one c).1 = one ∨ (unitF ks one c).1 ∈ c) ∧ ¬ (unitF ks one c).1 ∈ ks ∧ ¬ -(unitF ks one c).1 ∈ ks ∧ (unitF ks one c).2 = false
  | [], one, h, ho => by
    simp only [unitF] at h ⊢
    exact ⟨.inl trivial, (ho h).1, (ho h).2, by simpa using h⟩
  | a :: c, one, h, ho => by
    unfold unitF at h ⊢
    split at h
    · exact absurd rfl h
    · rename_i hh
      rw [if_neg hh]
      have hna : ¬ a ∈ ks := by intro hm; apply hh; simp [hm]
      split at h
      · rename_i h2
        rw [if_pos h2]
        obtain ⟨h3, h4⟩ := unitF_mem (c := c) h ho
        refine ⟨?_, h4⟩
        rcases h3 with h3 | h3
        · exact .inl h3
        · exact .inr (List.mem_cons_of_mem _ h3)
      · rename_i h2
        rw [if_neg h2]
        obtain ⟨h3, h4⟩ := unitF_mem (c := c) h (fun _ => ⟨hna, by simpa using h2⟩)
        refine ⟨.inr ?_, h4⟩
        rcases h3 with h3 | h3
        · rw [h3]; exact List.mem_cons_self
        · exact List.mem_cons_of_mem _ h3

theorem dats_vi : ∀ l : Cl, V.dats (l.map vi) = true
  | [] => rfl
  | a :: l => by simp only [List.map_cons, V.dats, V.dat, dats_vi l, Bool.and_self]
theorem dats_heldT : ∀ l : Cl, V.dats (heldT l) = true
  | [] => rfl
  | a :: l => by
    have := dats_heldT l
    simp only [heldT] at this
    simp only [heldT, List.map_cons, V.dats, V.dat, this, Bool.and_self]

theorem unitF_zero {ks c : Cl} (h : (unitF ks 0 c).1 = 0) (h2 : (unitF ks 0 c).2 = false) : unitF ks 0 c = (0, false) := Prod.ext h h2

theorem goOn1_calls (id pm pc pl : Nat) (h : H) (l : List Cl) (hl : ∀ c ∈ l, ∀ a ∈ c, -20000 ≤ a ∧ a ≤ 20000) (hlen : l.length ≤ maxLen) (ks0 : Cl) (Good : Cl → Prop)
    (I : Cl → H → (Nat → Bool) → Prop) (Stop : Option Code → H → (Nat → Bool) → Prop)
    (hI : ∀ ks h k, I ks h k → h[pm]? = some (.map (ks.map vi) (heldT ks)) ∧ h[pc]? = some (.cells [.lm pm]) ∧ h[pl]? = some (.cells [cls l]) ∧ k pm = false ∧ k pc = false ∧ k pl = false)
    (h0 : I ks0 h (fun _ => false)) (g0 : Good ks0)
    (good : ∀ ks c, Good ks → c ∈ l → (unitF ks 0 c).1 ≠ 0 → Good (ks ++ [(unitF ks 0 c).1]))
    (step : ∀ ks h' k a, k id = false → I ks h' k → a ≠ 0 → ¬ a ∈ ks → ¬ -a ∈ ks → (-20000 ≤ a ∧ a ≤ 20000) → Gets TE id [vi a] h' fun j h'' p => j = none ∧ I (ks ++ [a]) h'' (fun i => k i || p i))
    (bad : ∀ ks h' k, k id = false → I ks h' k → Gets TE id [vi 0] h' fun j h'' p => Stop j h'' (fun i => k i || p i)) :
    ACalls TE 60 ([] ++ [.yd id] ++ [.lp pl 0, .lp pc 0]) h fun ae h' p => p id = false ∧ match ae with
      | .ret _ => (∃ ks, I ks h' p ∧ Good ks ∧ ∀ c ∈ l, unitF ks 0 c = (0, false)) ∨ ((∃ ks c, Good ks ∧ c ∈ l ∧ (unitF ks 0 c).2 = true) ∧ ∃ j, Stop j h' p)
      | .pan _ => False := by
  refine ACalls.of_awp Try.func60 rfl (by simp [nts]) (vc_ok mixed _ _ _ _ ?_)
  simp only [sa0.down, sa1.down, sa2.down, sa3.down, sa4.down, sb0.down, sb1.down, sb2.down, sb3.down, ↓reduceIte, Nat.reduceEqDiff, Nat.reduceLT, Nat.reduceLeDiff, Nat.reduceAdd, Nat.reduceSub, Int.reduceToNat, Nat.reduceDiv, Int.reduceLT, Int.reduceLE, Int.reduceNeg, Int.reduceBEq, Int.reduceBNe, Int.reduceAdd, Int.reduceSub, Nat.reduceBEq, reduceCtorEq, Nat.reduceMul, TEP, tis, ens, nts, Try.results60]
  refine awp_loop (fun m f h => ∃ ks ag, many l ks + (if ag = true then 1 else 0) = m ∧ f.t 0 = .yd id ∧ f.t 1 = .lp pl 0 ∧ f.t 2 = .lp pc 0 ∧ f.t 4 = .bool ag ∧ f.d = [] ∧ f.k id = false ∧ I ks h f.k ∧ Good ks ∧ (ag = false → ∀ c ∈ l, unitF ks 0 c = (0, false))) (many l ks0 + 1) ⟨ks0, true, rfl, rfl, rfl, rfl, rfl, rfl, rfl, h0, g0, by simp⟩ ?_
  rintro m f h ⟨ks, ag, hm, h0, h1, h2, h4, hd, hk, hIk, hg, hag⟩
  obtain ⟨i1, i2, i3, i4, i5, i6⟩ := hI _ _ _ hIk
  refine vc_ok mixed _ _ _ _ ?_
  simp only [sa0.down, sa1.down, sa2.down, sa3.down, sa4.down, sb0.down, sb1.down, sb2.down, sb3.down, ↓reduceIte, Nat.reduceEqDiff, Nat.reduceLT, Nat.reduceLeDiff, Nat.reduceAdd, Nat.reduceSub, Int.reduceToNat, Nat.reduceDiv, Int.reduceLT, Int.reduceLE, Int.reduceNeg, Int.reduceBEq, Int.reduceBNe, Int.reduceAdd, Int.reduceSub, Nat.reduceBEq, reduceCtorEq, Nat.reduceMul, TEP, tis, ens, nts, Try.results60, h0, h1, h2, h4, hd, hk]
  refine vcB.mk (fun hc => ?_) (fun hc => ?_)
  · subst hc
    simp only [sa0.down, sa1.down, sa2.down, sa3.down, sa4.down, sb0.down, sb1.down, sb2.down, sb3.down, ↓reduceIte, Nat.reduceEqDiff, Nat.reduceLT, Nat.reduceLeDiff, Nat.reduceAdd, Nat.reduceSub, Int.reduceToNat, Nat.reduceDiv, Int.reduceLT, Int.reduceLE, Int.reduceNeg, Int.reduceBEq, Int.reduceBNe, Int.reduceAdd, Int.reduceSub, Nat.reduceBEq, reduceCtorEq, Nat.reduceMul, TEP, tis, ens, nts, Try.results60, h0, h1, h2, h4, hd, hk, i3]
    refine awp_loop (fun m2 f h => ∃ i ks' ag', m2 + i = l.length ∧ f.t 0 = .yd id ∧ f.t 1 = .lp pl 0 ∧ f.t 2 = .lp pc 0 ∧ f.t 4 = .bool ag' ∧ f.t 10 = cls l ∧ f.t 11 = vi l.length ∧ f.t 12 = vi i ∧ f.d = [] ∧ f.k id = false ∧ I ks' h f.k ∧ Good ks' ∧ many l ks' + (if ag' = true then 1 else 0) ≤ many l ks ∧ (ag' = false → ∀ c ∈ l.take i, unitF ks' 0 c = (0, false))) l.length ⟨0, ks, false, by simp, h0, h1, h2, rfl, rfl, rfl, rfl, hd, hk, hIk, hg, by simp, by simp⟩ ?_
    rintro m2 f h ⟨i, ks', ag', hm2, h0, h1, h2, h4, h10, h11, h12, hd, hk, hIk, hg, hmany, hag⟩
    obtain ⟨i1, i2, i3, i4, i5, i6⟩ := hI _ _ _ hIk
    refine vc_ok mixed _ _ _ _ ?_
    simp only [sa0.down, sa1.down, sa2.down, sa3.down, sa4.down, sb0.down, sb1.down, sb2.down, sb3.down, ↓reduceIte, Nat.reduceEqDiff, Nat.reduceLT, Nat.reduceLeDiff, Nat.reduceAdd, Nat.reduceSub, Int.reduceToNat, Nat.reduceDiv, Int.reduceLT, Int.reduceLE, Int.reduceNeg, Int.reduceBEq, Int.reduceBNe, Int.reduceAdd, Int.reduceSub, Nat.reduceBEq, reduceCtorEq, Nat.reduceMul, TEP, tis, ens, nts, Try.results60, h0, h1, h2, h4, h10, h11, h12, hd, hk, i2]
    refine vcB.mk (fun hc => ?_) (fun hc => ?_)
    · simp only [decide_eq_true_eq, Int.ofNat_lt] at hc
      simp only [sa0.down, sa1.down, sa2.down, sa3.down, sa4.down, sb0.down, sb1.down, sb2.down, sb3.down, ↓reduceIte, Nat.reduceEqDiff, Nat.reduceLT, Nat.reduceLeDiff, Nat.reduceAdd, Nat.reduceSub, Int.reduceToNat, Nat.reduceDiv, Int.reduceLT, Int.reduceLE, Int.reduceNeg, Int.reduceBEq, Int.reduceBNe, Int.reduceAdd, Int.reduceSub, Nat.reduceBEq, reduceCtorEq, Nat.reduceMul, TEP, tis, ens, nts, Try.results60, h0, h1, h2, h4, h10, h11, h12, hd, hk, i2, getC hc]
      refine ⟨⟨by omega, by omega⟩, ACalls.lend (ev_unit ks' l[i] (hl _ (List.getElem_mem _))) (Reifs.cons (Reif.lm i1 (Reifs.dat (dats_vi _)) (Reifs.dat (dats_heldT _))) (Reifs.cons (Reif.dat (by simp only [V.dat, dats_vi])) Reifs.nil)) rfl ?_⟩
      simp only [sa0.down, sa1.down, sa2.down, sa3.down, sa4.down, sb0.down, sb1.down, sb2.down, sb3.down, ↓reduceIte, Nat.reduceEqDiff, Nat.reduceLT, Nat.reduceLeDiff, Nat.reduceAdd, Nat.reduceSub, Int.reduceToNat, Nat.reduceDiv, Int.reduceLT, Int.reduceLE, Int.reduceNeg, Int.reduceBEq, Int.reduceBNe, Int.reduceAdd, Int.reduceSub, Nat.reduceBEq, reduceCtorEq, Nat.reduceMul, TEP, tis, ens, nts, Try.results60, h0, h1, h2, h4, h10, h11, h12, hd, hk]
      refine vcB.mk (fun hb => ?_) (fun hb => ?_)
      · have hy := bad ks' h f.k hk hIk
        obtain ⟨t, n', ps, asg, body, pend, hL, hsz, hps, hw⟩ := hy
        simp only [sa0.down, sa1.down, sa2.down, sa3.down, sa4.down, sb0.down, sb1.down, sb2.down, sb3.down, ↓reduceIte, Nat.reduceEqDiff, Nat.reduceLT, Nat.reduceLeDiff, Nat.reduceAdd, Nat.reduceSub, Int.reduceToNat, Nat.reduceDiv, Int.reduceLT, Int.reduceLE, Int.reduceNeg, Int.reduceBEq, Int.reduceBNe, Int.reduceAdd, Int.reduceSub, Nat.reduceBEq, reduceCtorEq, Nat.reduceMul, TEP, tis, ens, nts, Try.results60, h0, h1, h2, h4, h10, h11, h12, hd, hk, hL]
        refine ⟨⟨by simpa using hsz, hps⟩, yieldK_of hw ?_⟩
        intro j h' p hp hS
        refine ⟨by simp [put_d, hd], ?_⟩
        simp only [sa0.down, sa1.down, sa2.down, sa3.down, sa4.down, sb0.down, sb1.down, sb2.down, sb3.down, ↓reduceIte, Nat.reduceEqDiff, Nat.reduceLT, Nat.reduceLeDiff, Nat.reduceAdd, Nat.reduceSub, Int.reduceToNat, Nat.reduceDiv, Int.reduceLT, Int.reduceLE, Int.reduceNeg, Int.reduceBEq, Int.reduceBNe, Int.reduceAdd, Int.reduceSub, Nat.reduceBEq, reduceCtorEq, Nat.reduceMul, TEP, tis, ens, nts, Try.results60, h0, h1, h2, h4, h10, h11, h12, hd, hp, hk]
        exact .inr ⟨⟨ks', l[i], hg, List.getElem_mem _, hb⟩, j, hS⟩
      · simp only [sa0.down, sa1.down, sa2.down, sa3.down, sa4.down, sb0.down, sb1.down, sb2.down, sb3.down, ↓reduceIte, Nat.reduceEqDiff, Nat.reduceLT, Nat.reduceLeDiff, Nat.reduceAdd, Nat.reduceSub, Int.reduceToNat, Nat.reduceDiv, Int.reduceLT, Int.reduceLE, Int.reduceNeg, Int.reduceBEq, Int.reduceBNe, Int.reduceAdd, Int.reduceSub, Nat.reduceBEq, reduceCtorEq, Nat.reduceMul, TEP, tis, ens, nts, Try.results60, h0, h1, h2, h4, h10, h11, h12, hd, hk]
        refine vcB.mk (fun hn => ?_) (fun hn => ?_)
        · have hn : (unitF ks' 0 l[i]).1 ≠ 0 := by simpa using hn
          obtain ⟨u1, u2, u3, u4⟩ := unitF_mem hn (by simp)
          have u1 : (unitF ks' 0 l[i]).1 ∈ l[i] := by
            rcases u1 with u1 | u1
            · exact absurd u1 hn
            · exact u1
          have hy := step ks' h f.k _ hk hIk hn u2 u3 (hl _ (List.getElem_mem _) _ u1)
          have hlt := many_lt (List.getElem_mem hc) u1 u2
          have hgood := good ks' l[i] hg (List.getElem_mem _) hn
          obtain ⟨t, n', ps, asg, body, pend, hL, hsz, hps, hw⟩ := hy
          simp only [sa0.down, sa1.down, sa2.down, sa3.down, sa4.down, sb0.down, sb1.down, sb2.down, sb3.down, ↓reduceIte, Nat.reduceEqDiff, Nat.reduceLT, Nat.reduceLeDiff, Nat.reduceAdd, Nat.reduceSub, Int.reduceToNat, Nat.reduceDiv, Int.reduceLT, Int.reduceLE, Int.reduceNeg, Int.reduceBEq, Int.reduceBNe, Int.reduceAdd, Int.reduceSub, Nat.reduceBEq, reduceCtorEq, Nat.reduceMul, TEP, tis, ens, nts, Try.results60, h0, h1, h2, h4, h10, h11, h12, hd, hk, hL]
          refine ⟨⟨by simpa using hsz, hps⟩, yieldK_of hw ?_⟩
          rintro j h' p hp ⟨rfl, hS⟩
          obtain ⟨_, _, _, j4, j5, j6⟩ := hI _ _ _ hS
          have j5 : p pc = false := by simpa [i5] using j5
          have j6 : p pl = false := by simpa [i6] using j6
          refine ⟨by simp [put_d, hd], ?_⟩
          simp only [sa0.down, sa1.down, sa2.down, sa3.down, sa4.down, sb0.down, sb1.down, sb2.down, sb3.down, ↓reduceIte, Nat.reduceEqDiff, Nat.reduceLT, Nat.reduceLeDiff, Nat.reduceAdd, Nat.reduceSub, Int.reduceToNat, Nat.reduceDiv, Int.reduceLT, Int.reduceLE, Int.reduceNeg, Int.reduceBEq, Int.reduceBNe, Int.reduceAdd, Int.reduceSub, Nat.reduceBEq, reduceCtorEq, Nat.reduceMul, TEP, tis, ens, nts, Try.results60, h0, h1, h2, h4, h10, h11, h12, hd, hp, hk, j5, j6, Option.isNone_none, wrap_succ (show i < maxLen by omega)]
          refine .inl ⟨m2 - 1, by omega, i + 1, _, true, by omega, by simp only [sa0.down, sa1.down, sa2.down, sa3.down, sa4.down, sb0.down, sb1.down, sb2.down, sb3.down, ↓reduceIte, Nat.reduceEqDiff, Nat.reduceLT, Nat.reduceLeDiff, Nat.reduceAdd, Nat.reduceSub, Int.reduceToNat, Nat.reduceDiv, Int.reduceLT, Int.reduceLE, Int.reduceNeg, Int.reduceBEq, Int.reduceBNe, Int.reduceAdd, Int.reduceSub, Nat.reduceBEq, reduceCtorEq, Nat.reduceMul, TEP, tis, ens, nts, Try.results60, h0, hp], by simp only [sa0.down, sa1.down, sa2.down, sa3.down, sa4.down, sb0.down, sb1.down, sb2.down, sb3.down, ↓reduceIte, Nat.reduceEqDiff, Nat.reduceLT, Nat.reduceLeDiff, Nat.reduceAdd, Nat.reduceSub, Int.reduceToNat, Nat.reduceDiv, Int.reduceLT, Int.reduceLE, Int.reduceNeg, Int.reduceBEq, Int.reduceBNe, Int.reduceAdd, Int.reduceSub, Nat.reduceBEq, reduceCtorEq, Nat.reduceMul, TEP, tis, ens, nts, Try.results60, h1, j6], by simp only [sa0.down, sa1.down, sa2.down, sa3.down, sa4.down, sb0.down, sb1.down, sb2.down, sb3.down, ↓reduceIte, Nat.reduceEqDiff, Nat.reduceLT, Nat.reduceLeDiff, Nat.reduceAdd, Nat.reduceSub, Int.reduceToNat, Nat.reduceDiv, Int.reduceLT, Int.reduceLE, Int.reduceNeg, Int.reduceBEq, Int.reduceBNe, Int.reduceAdd, Int.reduceSub, Nat.reduceBEq, reduceCtorEq, Nat.reduceMul, TEP, tis, ens, nts, Try.results60, h2, j5], by simp only [sa0.down, sa1.down, sa2.down, sa3.down, sa4.down, sb0.down, sb1.down, sb2.down, sb3.down, ↓reduceIte, Nat.reduceEqDiff, Nat.reduceLT, Nat.reduceLeDiff, Nat.reduceAdd, Nat.reduceSub, Int.reduceToNat, Nat.reduceDiv, Int.reduceLT, Int.reduceLE, Int.reduceNeg, Int.reduceBEq, Int.reduceBNe, Int.reduceAdd, Int.reduceSub, Nat.reduceBEq, reduceCtorEq, Nat.reduceMul, TEP, tis, ens, nts, Try.results60], by simp only [sa0.down, sa1.down, sa2.down, sa3.down, sa4.down, sb0.down, sb1.down, sb2.down, sb3.down, ↓reduceIte, Nat.reduceEqDiff, Nat.reduceLT, Nat.reduceLeDiff, Nat.reduceAdd, Nat.reduceSub, Int.reduceToNat, Nat.reduceDiv, Int.reduceLT, Int.reduceLE, Int.reduceNeg, Int.reduceBEq, Int.reduceBNe, Int.reduceAdd, Int.reduceSub, Nat.reduceBEq, reduceCtorEq, Nat.reduceMul, TEP, tis, ens, nts, Try.results60, h10], by simp only [sa0.down, sa1.down, sa2.down, sa3.down, sa4.down, sb0.down, sb1.down, sb2.down, sb3.down, ↓reduceIte, Nat.reduceEqDiff, Nat.reduceLT, Nat.reduceLeDiff, Nat.reduceAdd, Nat.reduceSub, Int.reduceToNat, Nat.reduceDiv, Int.reduceLT, Int.reduceLE, Int.reduceNeg, Int.reduceBEq, Int.reduceBNe, Int.reduceAdd, Int.reduceSub, Nat.reduceBEq, reduceCtorEq, Nat.reduceMul, TEP, tis, ens, nts, Try.results60, h11], by simp only [sa0.down, sa1.down, sa2.down, sa3.down, sa4.down, sb0.down, sb1.down, sb2.down, sb3.down, ↓reduceIte, Nat.reduceEqDiff, Nat.reduceLT, Nat.reduceLeDiff, Nat.reduceAdd, Nat.reduceSub, Int.reduceToNat, Nat.reduceDiv, Int.reduceLT, Int.reduceLE, Int.reduceNeg, Int.reduceBEq, Int.reduceBNe, Int.reduceAdd, Int.reduceSub, Nat.reduceBEq, reduceCtorEq, Nat.reduceMul, TEP, tis, ens, nts, Try.results60], by simp only [sa0.down, sa1.down, sa2.down, sa3.down, sa4.down, sb0.down, sb1.down, sb2.down, sb3.down, ↓reduceIte, Nat.reduceEqDiff, Nat.reduceLT, Nat.reduceLeDiff, Nat.reduceAdd, Nat.reduceSub, Int.reduceToNat, Nat.reduceDiv, Int.reduceLT, Int.reduceLE, Int.reduceNeg, Int.reduceBEq, Int.reduceBNe, Int.reduceAdd, Int.reduceSub, Nat.reduceBEq, reduceCtorEq, Nat.reduceMul, TEP, tis, ens, nts, Try.results60, hd], by simp only [sa0.down, sa1.down, sa2.down, sa3.down, sa4.down, sb0.down, sb1.down, sb2.down, sb3.down, ↓reduceIte, Nat.reduceEqDiff, Nat.reduceLT, Nat.reduceLeDiff, Nat.reduceAdd, Nat.reduceSub, Int.reduceToNat, Nat.reduceDiv, Int.reduceLT, Int.reduceLE, Int.reduceNeg, Int.reduceBEq, Int.reduceBNe, Int.reduceAdd, Int.reduceSub, Nat.reduceBEq, reduceCtorEq, Nat.reduceMul, TEP, tis, ens, nts, Try.results60, hk, hp], by simp only [sa0.down, sa1.down, sa2.down, sa3.down, sa4.down, sb0.down, sb1.down, sb2.down, sb3.down, ↓reduceIte, Nat.reduceEqDiff, Nat.reduceLT, Nat.reduceLeDiff, Nat.reduceAdd, Nat.reduceSub, Int.reduceToNat, Nat.reduceDiv, Int.reduceLT, Int.reduceLE, Int.reduceNeg, Int.reduceBEq, Int.reduceBNe, Int.reduceAdd, Int.reduceSub, Nat.reduceBEq, reduceCtorEq, Nat.reduceMul, TEP, tis, ens, nts, Try.results60]; exact hS, hgood, ?_, by simp⟩
          simp only [if_true]
          omega
        · have hn : (unitF ks' 0 l[i]).1 = 0 := by simpa using hn
          simp only [sa0.down, sa1.down, sa2.down, sa3.down, sa4.down, sb0.down, sb1.down, sb2.down, sb3.down, ↓reduceIte, Nat.reduceEqDiff, Nat.reduceLT, Nat.reduceLeDiff, Nat.reduceAdd, Nat.reduceSub, Int.reduceToNat, Nat.reduceDiv, Int.reduceLT, Int.reduceLE, Int.reduceNeg, Int.reduceBEq, Int.reduceBNe, Int.reduceAdd, Int.reduceSub, Nat.reduceBEq, reduceCtorEq, Nat.reduceMul, TEP, tis, ens, nts, Try.results60, h0, h1, h2, h4, h10, h11, h12, hd, hk, wrap_succ (show i < maxLen by omega)]
          exact .inl ⟨m2 - 1, by omega, i + 1, ks', ag', by omega, h0, h1, h2, h4, h10, h11, rfl, hd, hk, hIk, hg, hmany, fun ha => mem_take_succ hc (hag ha) (unitF_zero hn hb)⟩
    · simp only [decide_eq_false_iff_not, Int.ofNat_lt] at hc
      simp only [sa0.down, sa1.down, sa2.down, sa3.down, sa4.down, sb0.down, sb1.down, sb2.down, sb3.down, ↓reduceIte, Nat.reduceEqDiff, Nat.reduceLT, Nat.reduceLeDiff, Nat.reduceAdd, Nat.reduceSub, Int.reduceToNat, Nat.reduceDiv, Int.reduceLT, Int.reduceLE, Int.reduceNeg, Int.reduceBEq, Int.reduceBNe, Int.reduceAdd, Int.reduceSub, Nat.reduceBEq, reduceCtorEq, Nat.reduceMul, TEP, tis, ens, nts, Try.results60, h0, h1, h2, h4, h10, h11, h12, hd, hk]
      refine .inl ⟨many l ks' + (if ag' = true then 1 else 0), ?_, ks', ag', rfl, h0, h1, h2, h4, hd, hk, hIk, hg, fun ha => ?_⟩
      · simp only [if_true] at hm
        omega
      · have := hag ha
        rw [List.take_of_length_le (by omega)] at this
        exact this
  · subst hc
    simp only [sa0.down, sa1.down, sa2.down, sa3.down, sa4.down, sb0.down, sb1.down, sb2.down, sb3.down, ↓reduceIte, Nat.reduceEqDiff, Nat.reduceLT, Nat.reduceLeDiff, Nat.reduceAdd, Nat.reduceSub, Int.reduceToNat, Nat.reduceDiv, Int.reduceLT, Int.reduceLE, Int.reduceNeg, Int.reduceBEq, Int.reduceBNe, Int.reduceAdd, Int.reduceSub, Nat.reduceBEq, reduceCtorEq, Nat.reduceMul, TEP, tis, ens, nts, Try.results60, h0, h1, h2, h4, hd, hk]
    exact .inl ⟨ks, hIk, hg, hag rfl⟩

end Go.Proofs.Ytegnjoonhabicaa
