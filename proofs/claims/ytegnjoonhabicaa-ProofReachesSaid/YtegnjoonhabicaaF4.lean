/- Functions of the program, part 4. -/
import Derived.Test.YtegnjoonhabicaaF3
set_option linter.unusedVariables false
set_option linter.unusedSimpArgs false
set_option linter.unnecessarySimpa false
namespace Go.Proofs.Ytegnjoonhabicaa
open Go Go.Proofs Go.Abs

abbrev heldT (ks : Cl) : List V := ks.map fun _ => V.bool true
abbrev heldV (ks : Cl) : V := .im (ks.map vi) (heldT ks)

theorem mfindI (a : Int) : ∀ (ks : Cl), mfind (.int .i64) (vi a) (ks.map vi) = some (ks.findIdx? (· == a))
  | [] => rfl
  | k :: ks => by
    simp only [List.map_cons, mfind, keq, List.findIdx?_cons]
    by_cases h : k = a
    · subst h; simp
    · have h1 : (a == k) = false := by simpa using fun h' => h h'.symm
      have h2 : (k == a) = false := by simpa using h
      have h3 : (if True then some (a == k) else none) = some false := by rw [if_pos trivial, h1]
      simp only [h3, mfindI a ks, h2]
      cases ks.findIdx? (· == a) <;> rfl

theorem mgetI (a : Int) (ks : Cl) : mget (.int .i64) (vi a) (ks.map vi) (heldT ks) (.bool false) false = (True, .bool (ks.contains a)) := by
  unfold mget
  rw [mfindI]
  cases h : ks.findIdx? (· == a) with
  | none =>
    have : ¬ a ∈ ks := by
      intro hm
      have := List.findIdx?_eq_none_iff.1 h a hm
      simp at this
    simp [this]
  | some n =>
    obtain ⟨h1, h2, _⟩ := List.findIdx?_eq_some_iff_getElem.1 h
    have h2 : ks[n] = a := by simpa using h2
    have : a ∈ ks := h2 ▸ List.getElem_mem h1
    simp [this, h1]

/-- The one literal of a clause that has to hold. -/
def unitF (h : Cl) : Int → Cl → Int × Bool
  | one, [] => (one, one == 0)
  | one, a :: c => if (h.contains a || (one != 0 && one != a && !h.contains (-a))) = true then (0, false) else unitF h (if h.contains (-a) = true then one else a) c

theorem wrapneg {a : Int} (h : -20000 ≤ a ∧ a ≤ 20000) : IntKind.i64.wrap (0 - a) = -a := by
  rw [wrapn (by omega) (by omega)]; omega

theorem ev_unit (h c : Cl) (hc : ∀ a ∈ c, -20000 ≤ a ∧ a ≤ 20000) : Ev TE 61 [heldV h, ints c] (.tup [vi (unitF h 0 c).1, .bool (unitF h 0 c).2]) := by
  refine Ev.bnd fun hb => ?_
  have hlen : c.length ≤ maxLen := by
    simp only [V.bnds, V.bnd, List.length_map] at hb
    exact hb.2.1.1
  refine Ev.of_awp Try.func61 rfl (by simp [nts]) (vc_ok mixed _ _ _ _ ?_)
  simp only [sa0.down, sa1.down, sa2.down, sa3.down, sa4.down, sb0.down, sb1.down, sb2.down, sb3.down, ↓reduceIte, Nat.reduceEqDiff, Nat.reduceLT, Nat.reduceLeDiff, Nat.reduceAdd, Nat.reduceSub, Int.reduceToNat, Nat.reduceDiv, Int.reduceLT, Int.reduceLE, Int.reduceNeg, Int.reduceBEq, Int.reduceBNe, Int.reduceAdd, Int.reduceSub, Nat.reduceBEq, reduceCtorEq, Nat.reduceMul, TEP, tis, ens, nts, Try.results61]
  refine awp_loop (fun m f hh => ∃ i one, m + i = c.length ∧ f.t 0 = heldV h ∧ f.t 1 = ints c ∧ f.t 6 = vi one ∧ f.t 9 = ints c ∧ f.t 10 = vi c.length ∧ f.t 11 = vi i ∧ f.d = [] ∧ unitF h 0 c = unitF h one (c.drop i)) c.length ⟨0, 0, by simp, rfl, rfl, rfl, rfl, rfl, rfl, rfl, rfl⟩ ?_
  rintro m f hh ⟨i, one, hm, h0, h1, h6, h9, h10, h11, hd, hu⟩
  refine vc_ok mixed _ _ _ _ ?_
  simp only [sa0.down, sa1.down, sa2.down, sa3.down, sa4.down, sb0.down, sb1.down, sb2.down, sb3.down, ↓reduceIte, Nat.reduceEqDiff, Nat.reduceLT, Nat.reduceLeDiff, Nat.reduceAdd, Nat.reduceSub, Int.reduceToNat, Nat.reduceDiv, Int.reduceLT, Int.reduceLE, Int.reduceNeg, Int.reduceBEq, Int.reduceBNe, Int.reduceAdd, Int.reduceSub, Nat.reduceBEq, reduceCtorEq, Nat.reduceMul, TEP, tis, ens, nts, Try.results61, h0, h1, h6, h9, h10, h11, hd]
  refine vcB.mk (fun hlt => ?_) (fun hlt => ?_)
  · simp only [decide_eq_true_eq, Int.ofNat_lt] at hlt
    have hdrop : c.drop i = c[i] :: c.drop (i + 1) := List.drop_eq_getElem_cons hlt
    rw [hdrop, unitF] at hu
    have hw := wrapneg (hc c[i] (List.getElem_mem _))
    simp only [sa0.down, sa1.down, sa2.down, sa3.down, sa4.down, sb0.down, sb1.down, sb2.down, sb3.down, ↓reduceIte, Nat.reduceEqDiff, Nat.reduceLT, Nat.reduceLeDiff, Nat.reduceAdd, Nat.reduceSub, Int.reduceToNat, Nat.reduceDiv, Int.reduceLT, Int.reduceLE, Int.reduceNeg, Int.reduceBEq, Int.reduceBNe, Int.reduceAdd, Int.reduceSub, Nat.reduceBEq, reduceCtorEq, Nat.reduceMul, TEP, tis, ens, nts, Try.results61, h0, h1, h6, h9, h10, h11, hd, getI hlt, mgetI, hw]
    refine ⟨⟨by omega, by omega⟩, vcB.mk (fun hin => ?_) (fun hin => ?_)⟩
    · rw [if_pos (by rw [hin]; rfl)] at hu
      rw [hu]
      simp only [sa0.down, sa1.down, sa2.down, sa3.down, sa4.down, sb0.down, sb1.down, sb2.down, sb3.down, ↓reduceIte, Nat.reduceEqDiff, Nat.reduceLT, Nat.reduceLeDiff, Nat.reduceAdd, Nat.reduceSub, Int.reduceToNat, Nat.reduceDiv, Int.reduceLT, Int.reduceLE, Int.reduceNeg, Int.reduceBEq, Int.reduceBNe, Int.reduceAdd, Int.reduceSub, Nat.reduceBEq, reduceCtorEq, Nat.reduceMul, TEP, tis, ens, nts, Try.results61, h0, h1, h6, h9, h10, h11, hd, hin]
      exact Reif.dat rfl
    · simp only [sa0.down, sa1.down, sa2.down, sa3.down, sa4.down, sb0.down, sb1.down, sb2.down, sb3.down, ↓reduceIte, Nat.reduceEqDiff, Nat.reduceLT, Nat.reduceLeDiff, Nat.reduceAdd, Nat.reduceSub, Int.reduceToNat, Nat.reduceDiv, Int.reduceLT, Int.reduceLE, Int.reduceNeg, Int.reduceBEq, Int.reduceBNe, Int.reduceAdd, Int.reduceSub, Nat.reduceBEq, reduceCtorEq, Nat.reduceMul, TEP, tis, ens, nts, Try.results61, h0, h1, h6, h9, h10, h11, hd, getI hlt, mgetI, hw, hin]
      refine vcB.mk (fun hb2 => ?_) (fun hb2 => ?_)
      · rw [if_pos (by rw [hin, Bool.false_or]; exact hb2)] at hu
        rw [hu]
        simp only [sa0.down, sa1.down, sa2.down, sa3.down, sa4.down, sb0.down, sb1.down, sb2.down, sb3.down, ↓reduceIte, Nat.reduceEqDiff, Nat.reduceLT, Nat.reduceLeDiff, Nat.reduceAdd, Nat.reduceSub, Int.reduceToNat, Nat.reduceDiv, Int.reduceLT, Int.reduceLE, Int.reduceNeg, Int.reduceBEq, Int.reduceBNe, Int.reduceAdd, Int.reduceSub, Nat.reduceBEq, reduceCtorEq, Nat.reduceMul, TEP, tis, ens, nts, Try.results61, h0, h1, h6, h9, h10, h11, hd]
        exact Reif.dat rfl
      · rw [if_neg (by rw [hin, Bool.false_or, hb2]; exact Bool.false_ne_true)] at hu
        simp only [sa0.down, sa1.down, sa2.down, sa3.down, sa4.down, sb0.down, sb1.down, sb2.down, sb3.down, ↓reduceIte, Nat.reduceEqDiff, Nat.reduceLT, Nat.reduceLeDiff, Nat.reduceAdd, Nat.reduceSub, Int.reduceToNat, Nat.reduceDiv, Int.reduceLT, Int.reduceLE, Int.reduceNeg, Int.reduceBEq, Int.reduceBNe, Int.reduceAdd, Int.reduceSub, Nat.reduceBEq, reduceCtorEq, Nat.reduceMul, TEP, tis, ens, nts, Try.results61, h0, h1, h6, h9, h10, h11, hd, mgetI, hw]
        refine vcB.mk (fun hn => ?_) (fun hn => ?_)
        · rw [if_neg (by simpa using hn)] at hu
          simp only [sa0.down, sa1.down, sa2.down, sa3.down, sa4.down, sb0.down, sb1.down, sb2.down, sb3.down, ↓reduceIte, Nat.reduceEqDiff, Nat.reduceLT, Nat.reduceLeDiff, Nat.reduceAdd, Nat.reduceSub, Int.reduceToNat, Nat.reduceDiv, Int.reduceLT, Int.reduceLE, Int.reduceNeg, Int.reduceBEq, Int.reduceBNe, Int.reduceAdd, Int.reduceSub, Nat.reduceBEq, reduceCtorEq, Nat.reduceMul, TEP, tis, ens, nts, Try.results61, h0, h1, h6, h9, h10, h11, hd, wrap_succ (show i < maxLen by omega)]
          exact .inl ⟨m - 1, by omega, i + 1, c[i], by omega, h0, h1, rfl, h9, h10, rfl, hd, hu⟩
        · rw [if_pos (by simpa using hn)] at hu
          simp only [sa0.down, sa1.down, sa2.down, sa3.down, sa4.down, sb0.down, sb1.down, sb2.down, sb3.down, ↓reduceIte, Nat.reduceEqDiff, Nat.reduceLT, Nat.reduceLeDiff, Nat.reduceAdd, Nat.reduceSub, Int.reduceToNat, Nat.reduceDiv, Int.reduceLT, Int.reduceLE, Int.reduceNeg, Int.reduceBEq, Int.reduceBNe, Int.reduceAdd, Int.reduceSub, Nat.reduceBEq, reduceCtorEq, Nat.reduceMul, TEP, tis, ens, nts, Try.results61, h0, h1, h6, h9, h10, h11, hd, wrap_succ (show i < maxLen by omega)]
          exact .inl ⟨m - 1, by omega, i + 1, one, by omega, h0, h1, h6, h9, h10, rfl, hd, hu⟩
  · simp only [decide_eq_false_iff_not, Int.ofNat_lt] at hlt
    rw [List.drop_of_length_le (by omega)] at hu
    rw [hu]
    simp only [sa0.down, sa1.down, sa2.down, sa3.down, sa4.down, sb0.down, sb1.down, sb2.down, sb3.down, ↓reduceIte, Nat.reduceEqDiff, Nat.reduceLT, Nat.reduceLeDiff, Nat.reduceAdd, Nat.reduceSub, Int.reduceToNat, Nat.reduceDiv, Int.reduceLT, Int.reduceLE, Int.reduceNeg, Int.reduceBEq, Int.reduceBNe, Int.reduceAdd, Int.reduceSub, Nat.reduceBEq, reduceCtorEq, Nat.reduceMul, TEP, tis, ens, nts, Try.results61, h0, h1, h6, h9, h10, h11, hd]
    exact Reif.dat rfl

end Go.Proofs.Ytegnjoonhabicaa
