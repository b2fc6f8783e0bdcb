/- Functions of the program, part 8. -/
import Derived.Test.YtbikgbnhngmohaaDoorF7
set_option linter.unusedVariables false
set_option linter.unusedSimpArgs false
set_option linter.unnecessarySimpa false
namespace Go.Proofs.YtbikgbnhngmohaaDoor
open Go Go.Proofs Go.Abs Go.RowKit

theorem tmodN (a b : Nat) : (a : Int).tmod (b : Int) = ((a % b : Nat) : Int) := rfl
theorem tdivN (a b : Nat) : (a : Int).tdiv (b : Int) = ((a / b : Nat) : Int) := rfl

/-- Digits that are ahead of others. -/
def decT (n : Nat) (t : By) : By := if n = 0 then t else Lib.decDigits n ++ t
theorem decT_step {n : Nat} (h : n ≠ 0) (t : By) : decT n t = decT (n / 10) (UInt8.ofNat (48 + n % 10) :: t) := by
  unfold decT
  rw [if_neg h]
  by_cases h10 : n < 10
  · rw [if_pos (by omega), Lib.decDigits_one h10, Nat.mod_eq_of_lt h10]; rfl
  · rw [if_neg (by omega), dec_big h10, List.append_assoc]; rfl
theorem dec_decT (n : Nat) : Lib.decDigits n = decT (n / 10) [UInt8.ofNat (48 + n % 10)] := by
  unfold decT
  by_cases h10 : n < 10
  · rw [if_pos (by omega), Lib.decDigits_one h10, Nat.mod_eq_of_lt h10]
  · rw [if_neg (by omega), dec_big h10]

theorem conv_one (h : H) (c : UInt8) : pvConv P h 34 9 (.is true 1 [.int .u8 (c.toNat : Int)]) = (True, .str [c]) := by
  simp only [pvConv, tis, vbytes, Option.map_some, Int.toNat_natCast, UInt8.ofNat_toNat, and_self]

theorem dig10 (m : Nat) : IntKind.u8.wrap (IntKind.i64.wrap (48 + (m : Int).tmod 10)) = ((UInt8.ofNat (48 + m % 10)).toNat : Int) := by
  rw [show (m : Int).tmod 10 = ((m % 10 : Nat) : Int) from rfl, wrapn (by omega) (by omega), IntKind.wrap_u8, ofNat_toNat (Nat.mod_lt _ (by omega))]
  omega
theorem quo10 (m : Nat) (h : m ≤ 2147483647) : IntKind.i64.wrap ((m : Int).tdiv 10) = ((m / 10 : Nat) : Int) := by
  rw [show (m : Int).tdiv 10 = ((m / 10 : Nat) : Int) from rfl, wrapn (by omega) (by omega)]
theorem dig128 (m : Nat) : IntKind.u8.wrap (IntKind.i64.wrap (128 + (m : Int).tmod 128)) = ((UInt8.ofNat (m % 128 + 128)).toNat : Int) := by
  rw [show (m : Int).tmod 128 = ((m % 128 : Nat) : Int) from rfl, wrapn (by omega) (by omega), IntKind.wrap_u8, UInt8.toNat_ofNat']
  omega
theorem quo128 (m : Nat) (h : m ≤ 2147483647) : IntKind.i64.wrap ((m : Int).tdiv 128) = ((m / 128 : Nat) : Int) := by
  rw [show (m : Int).tdiv 128 = ((m / 128 : Nat) : Int) from rfl, wrapn (by omega) (by omega)]

set_option maxHeartbeats 2000000 in
theorem ev_rput (n : Int) : Ev TE 11 [vi n] (.tup [.str (putV n).1, vi (putV n).2]) := by
  have hM : maxLen = 9223372036854775807 := rfl
  refine Ev.of_awp Tryd.func11 rfl (by simp [nts]) (vc_ok mixed _ _ _ _ ?_)
  simp only [sa0.down, sa1.down, sa2.down, sa3.down, sa4.down, sb0.down, sb1.down, sb2.down, sb3.down, ↓reduceIte, Nat.reduceEqDiff, Nat.reduceLT, Nat.reduceLeDiff, Nat.reduceAdd, Nat.reduceSub, Int.reduceToNat, Nat.reduceDiv, Int.reduceLT, Int.reduceLE, Int.reduceNeg, Int.reduceBEq, Int.reduceBNe, Int.reduceAdd, Int.reduceSub, Nat.reduceBEq, reduceCtorEq, Nat.reduceMul, TEP, pvNilI, tis, ens, nts, Tryd.results11]
  refine vcB.mk (fun hc => ?_) (fun hc => ?_)
  · have hf : fitsB n = false := by
      have : n < 0 ∨ 2147483647 < n := by simpa using hc
      simp [fitsB]; omega
    have h0 : putV n = ([], 3) := by unfold putV; rw [hf]; rfl
    rw [h0]
    simp only [sa0.down, sa1.down, sa2.down, sa3.down, sa4.down, sb0.down, sb1.down, sb2.down, sb3.down, ↓reduceIte, Nat.reduceEqDiff, Nat.reduceLT, Nat.reduceLeDiff, Nat.reduceAdd, Nat.reduceSub, Int.reduceToNat, Nat.reduceDiv, Int.reduceLT, Int.reduceLE, Int.reduceNeg, Int.reduceBEq, Int.reduceBNe, Int.reduceAdd, Int.reduceSub, Nat.reduceBEq, reduceCtorEq, Nat.reduceMul, TEP, pvNilI, tis, ens, nts, Tryd.results11]
    exact Reif.dat rfl
  · simp only [Bool.or_eq_false_iff, decide_eq_false_iff_not] at hc
    obtain ⟨m, rfl⟩ : ∃ m : Nat, n = m := ⟨n.toNat, by omega⟩
    have h0 : putV m = (Lib.decDigits m, 0) := by
      unfold putV
      rw [if_pos (by simp [fitsB]; omega), itoa_nat]
    rw [h0]
    rw [dec_decT]
    have hlen0 := dec_len (k := 9) (show m < 10 ^ 10 by omega)
    rw [dec_decT] at hlen0
    generalize hT : decT (m / 10) [UInt8.ofNat (48 + m % 10)] = T at hlen0
    simp only [sa0.down, sa1.down, sa2.down, sa3.down, sa4.down, sb0.down, sb1.down, sb2.down, sb3.down, ↓reduceIte, Nat.reduceEqDiff, Nat.reduceLT, Nat.reduceLeDiff, Nat.reduceAdd, Nat.reduceSub, Int.reduceToNat, Nat.reduceDiv, Int.reduceLT, Int.reduceLE, Int.reduceNeg, Int.reduceBEq, Int.reduceBNe, Int.reduceAdd, Int.reduceSub, Nat.reduceBEq, reduceCtorEq, Nat.reduceMul, TEP, pvNilI, tis, ens, nts, Tryd.results11, conv35, dig10, conv_one, quo10 m (by omega)]
    refine ⟨by decide, ⟨rfl, by decide⟩, by decide, ?_⟩
    refine awp_loop (fun k f h => ∃ n t, k = n ∧ f.t 0 = vi n ∧ f.t 4 = .str t ∧ f.d = [] ∧ h = [] ∧ decT n t = T ∧ n ≤ 2147483647) (m / 10) ⟨m / 10, _, rfl, rfl, rfl, rfl, rfl, hT, by omega⟩ ?_
    rintro k f h ⟨n, t, rfl, h0, h4, hd, rfl, hT, hn⟩
    refine vc_ok mixed _ _ _ _ ?_
    simp only [sa0.down, sa1.down, sa2.down, sa3.down, sa4.down, sb0.down, sb1.down, sb2.down, sb3.down, ↓reduceIte, Nat.reduceEqDiff, Nat.reduceLT, Nat.reduceLeDiff, Nat.reduceAdd, Nat.reduceSub, Int.reduceToNat, Nat.reduceDiv, Int.reduceLT, Int.reduceLE, Int.reduceNeg, Int.reduceBEq, Int.reduceBNe, Int.reduceAdd, Int.reduceSub, Nat.reduceBEq, reduceCtorEq, Nat.reduceMul, TEP, pvNilI, tis, ens, nts, Tryd.results11, h0, h4, hd]
    refine vcB.mk (fun hc => ?_) (fun hc => ?_)
    · have hc : k ≠ 0 := by have := of_decide_eq_true hc; omega
      have hT2 := hT
      rw [decT_step hc] at hT2
      have htl : t.length ≤ 10 := by
        have := congrArg List.length hT
        unfold decT at this
        rw [if_neg hc, List.length_append] at this
        omega
      simp only [sa0.down, sa1.down, sa2.down, sa3.down, sa4.down, sb0.down, sb1.down, sb2.down, sb3.down, ↓reduceIte, Nat.reduceEqDiff, Nat.reduceLT, Nat.reduceLeDiff, Nat.reduceAdd, Nat.reduceSub, Int.reduceToNat, Nat.reduceDiv, Int.reduceLT, Int.reduceLE, Int.reduceNeg, Int.reduceBEq, Int.reduceBNe, Int.reduceAdd, Int.reduceSub, Nat.reduceBEq, reduceCtorEq, Nat.reduceMul, TEP, pvNilI, tis, ens, nts, Tryd.results11, h0, h4, hd, conv35, dig10, conv_one, quo10 k hn, List.singleton_append]
      refine ⟨by decide, ⟨rfl, by decide⟩, by simp only [maxLen]; omega, by decide, .inl ⟨k / 10, by omega, k / 10, _, rfl, by simp only [sa0.down, sa1.down, sa2.down, sa3.down, sa4.down, sb0.down, sb1.down, sb2.down, sb3.down, ↓reduceIte, Nat.reduceEqDiff, Nat.reduceLT, Nat.reduceLeDiff, Nat.reduceAdd, Nat.reduceSub, Int.reduceToNat, Nat.reduceDiv, Int.reduceLT, Int.reduceLE, Int.reduceNeg, Int.reduceBEq, Int.reduceBNe, Int.reduceAdd, Int.reduceSub, Nat.reduceBEq, reduceCtorEq, Nat.reduceMul, TEP, pvNilI, tis, ens, nts, Tryd.results11], by simp only [sa0.down, sa1.down, sa2.down, sa3.down, sa4.down, sb0.down, sb1.down, sb2.down, sb3.down, ↓reduceIte, Nat.reduceEqDiff, Nat.reduceLT, Nat.reduceLeDiff, Nat.reduceAdd, Nat.reduceSub, Int.reduceToNat, Nat.reduceDiv, Int.reduceLT, Int.reduceLE, Int.reduceNeg, Int.reduceBEq, Int.reduceBNe, Int.reduceAdd, Int.reduceSub, Nat.reduceBEq, reduceCtorEq, Nat.reduceMul, TEP, pvNilI, tis, ens, nts, Tryd.results11], by simp only [sa0.down, sa1.down, sa2.down, sa3.down, sa4.down, sb0.down, sb1.down, sb2.down, sb3.down, ↓reduceIte, Nat.reduceEqDiff, Nat.reduceLT, Nat.reduceLeDiff, Nat.reduceAdd, Nat.reduceSub, Int.reduceToNat, Nat.reduceDiv, Int.reduceLT, Int.reduceLE, Int.reduceNeg, Int.reduceBEq, Int.reduceBNe, Int.reduceAdd, Int.reduceSub, Nat.reduceBEq, reduceCtorEq, Nat.reduceMul, TEP, pvNilI, tis, ens, nts, Tryd.results11, hd], rfl, hT2, by omega⟩⟩
    · have hc : k = 0 := by have := of_decide_eq_false hc; omega
      subst hc
      have hT2 : t = T := hT
      simp only [sa0.down, sa1.down, sa2.down, sa3.down, sa4.down, sb0.down, sb1.down, sb2.down, sb3.down, ↓reduceIte, Nat.reduceEqDiff, Nat.reduceLT, Nat.reduceLeDiff, Nat.reduceAdd, Nat.reduceSub, Int.reduceToNat, Nat.reduceDiv, Int.reduceLT, Int.reduceLE, Int.reduceNeg, Int.reduceBEq, Int.reduceBNe, Int.reduceAdd, Int.reduceSub, Nat.reduceBEq, reduceCtorEq, Nat.reduceMul, TEP, pvNilI, tis, ens, nts, Tryd.results11, h0, h4, hd]
      rw [hT2]
      exact Reif.dat rfl

set_option maxHeartbeats 2000000 in
theorem ev_rdelta (n : Int) : Ev TE 17 [vi n] (.tup [.str (deltaV n).1, vi (deltaV n).2]) := by
  have hM : maxLen = 9223372036854775807 := rfl
  refine Ev.of_awp Tryd.func17 rfl (by simp [nts]) (vc_ok mixed _ _ _ _ ?_)
  simp only [sa0.down, sa1.down, sa2.down, sa3.down, sa4.down, sb0.down, sb1.down, sb2.down, sb3.down, ↓reduceIte, Nat.reduceEqDiff, Nat.reduceLT, Nat.reduceLeDiff, Nat.reduceAdd, Nat.reduceSub, Int.reduceToNat, Nat.reduceDiv, Int.reduceLT, Int.reduceLE, Int.reduceNeg, Int.reduceBEq, Int.reduceBNe, Int.reduceAdd, Int.reduceSub, Nat.reduceBEq, reduceCtorEq, Nat.reduceMul, TEP, pvNilI, tis, ens, nts, Tryd.results17]
  refine vcB.mk (fun hc => ?_) (fun hc => ?_)
  · have hf : fitsB n = false := by
      have : n < 0 ∨ 2147483647 < n := by simpa using hc
      simp [fitsB]; omega
    have h0 : deltaV n = ([], 3) := by unfold deltaV; rw [hf]; rfl
    rw [h0]
    simp only [sa0.down, sa1.down, sa2.down, sa3.down, sa4.down, sb0.down, sb1.down, sb2.down, sb3.down, ↓reduceIte, Nat.reduceEqDiff, Nat.reduceLT, Nat.reduceLeDiff, Nat.reduceAdd, Nat.reduceSub, Int.reduceToNat, Nat.reduceDiv, Int.reduceLT, Int.reduceLE, Int.reduceNeg, Int.reduceBEq, Int.reduceBNe, Int.reduceAdd, Int.reduceSub, Nat.reduceBEq, reduceCtorEq, Nat.reduceMul, TEP, pvNilI, tis, ens, nts, Tryd.results17]
    exact Reif.dat rfl
  · simp only [Bool.or_eq_false_iff, decide_eq_false_iff_not] at hc
    obtain ⟨m, rfl⟩ : ∃ m : Nat, n = m := ⟨n.toNat, by omega⟩
    have h0 : deltaV m = (grp m, 0) := by
      unfold deltaV
      rw [if_pos (by simp [fitsB]; omega), Int.toNat_natCast]
    rw [h0]
    have hlen0 := grp_len 4 m (by omega)
    generalize hT : grp m = T at hlen0
    simp only [sa0.down, sa1.down, sa2.down, sa3.down, sa4.down, sb0.down, sb1.down, sb2.down, sb3.down, ↓reduceIte, Nat.reduceEqDiff, Nat.reduceLT, Nat.reduceLeDiff, Nat.reduceAdd, Nat.reduceSub, Int.reduceToNat, Nat.reduceDiv, Int.reduceLT, Int.reduceLE, Int.reduceNeg, Int.reduceBEq, Int.reduceBNe, Int.reduceAdd, Int.reduceSub, Nat.reduceBEq, reduceCtorEq, Nat.reduceMul, TEP, pvNilI, tis, ens, nts, Tryd.results17]
    refine awp_loop (fun k f h => ∃ n t, k = n ∧ f.t 0 = vi n ∧ f.t 4 = .str t ∧ f.d = [] ∧ h = [] ∧ t ++ grp n = T ∧ n ≤ 2147483647) m ⟨m, [], rfl, rfl, rfl, rfl, rfl, hT, by omega⟩ ?_
    rintro k f h ⟨n, t, rfl, h0, h4, hd, rfl, hT, hn⟩
    have htl : t.length ≤ 5 := by
      have := congrArg List.length hT
      rw [List.length_append] at this
      omega
    refine vc_ok mixed _ _ _ _ ?_
    simp only [sa0.down, sa1.down, sa2.down, sa3.down, sa4.down, sb0.down, sb1.down, sb2.down, sb3.down, ↓reduceIte, Nat.reduceEqDiff, Nat.reduceLT, Nat.reduceLeDiff, Nat.reduceAdd, Nat.reduceSub, Int.reduceToNat, Nat.reduceDiv, Int.reduceLT, Int.reduceLE, Int.reduceNeg, Int.reduceBEq, Int.reduceBNe, Int.reduceAdd, Int.reduceSub, Nat.reduceBEq, reduceCtorEq, Nat.reduceMul, TEP, pvNilI, tis, ens, nts, Tryd.results17, h0, h4, hd]
    refine vcB.mk (fun hc => ?_) (fun hc => ?_)
    · have hc : ¬ k < 128 := by have := of_decide_eq_true hc; omega
      rw [grp_big hc] at hT
      simp only [sa0.down, sa1.down, sa2.down, sa3.down, sa4.down, sb0.down, sb1.down, sb2.down, sb3.down, ↓reduceIte, Nat.reduceEqDiff, Nat.reduceLT, Nat.reduceLeDiff, Nat.reduceAdd, Nat.reduceSub, Int.reduceToNat, Nat.reduceDiv, Int.reduceLT, Int.reduceLE, Int.reduceNeg, Int.reduceBEq, Int.reduceBNe, Int.reduceAdd, Int.reduceSub, Nat.reduceBEq, reduceCtorEq, Nat.reduceMul, TEP, pvNilI, tis, ens, nts, Tryd.results17, h0, h4, hd, conv35, dig128, conv_one, quo128 k hn]
      refine ⟨by decide, ⟨rfl, by decide⟩, by simp only [maxLen]; omega, by decide, .inl ⟨k / 128, by omega, k / 128, t ++ [UInt8.ofNat (k % 128 + 128)], rfl, by simp only [sa0.down, sa1.down, sa2.down, sa3.down, sa4.down, sb0.down, sb1.down, sb2.down, sb3.down, ↓reduceIte, Nat.reduceEqDiff, Nat.reduceLT, Nat.reduceLeDiff, Nat.reduceAdd, Nat.reduceSub, Int.reduceToNat, Nat.reduceDiv, Int.reduceLT, Int.reduceLE, Int.reduceNeg, Int.reduceBEq, Int.reduceBNe, Int.reduceAdd, Int.reduceSub, Nat.reduceBEq, reduceCtorEq, Nat.reduceMul, TEP, pvNilI, tis, ens, nts, Tryd.results17], by simp only [sa0.down, sa1.down, sa2.down, sa3.down, sa4.down, sb0.down, sb1.down, sb2.down, sb3.down, ↓reduceIte, Nat.reduceEqDiff, Nat.reduceLT, Nat.reduceLeDiff, Nat.reduceAdd, Nat.reduceSub, Int.reduceToNat, Nat.reduceDiv, Int.reduceLT, Int.reduceLE, Int.reduceNeg, Int.reduceBEq, Int.reduceBNe, Int.reduceAdd, Int.reduceSub, Nat.reduceBEq, reduceCtorEq, Nat.reduceMul, TEP, pvNilI, tis, ens, nts, Tryd.results17], by simp only [sa0.down, sa1.down, sa2.down, sa3.down, sa4.down, sb0.down, sb1.down, sb2.down, sb3.down, ↓reduceIte, Nat.reduceEqDiff, Nat.reduceLT, Nat.reduceLeDiff, Nat.reduceAdd, Nat.reduceSub, Int.reduceToNat, Nat.reduceDiv, Int.reduceLT, Int.reduceLE, Int.reduceNeg, Int.reduceBEq, Int.reduceBNe, Int.reduceAdd, Int.reduceSub, Nat.reduceBEq, reduceCtorEq, Nat.reduceMul, TEP, pvNilI, tis, ens, nts, Tryd.results17, hd], rfl, by rw [List.append_assoc]; exact hT, by omega⟩⟩
    · have hc : k < 128 := by have := of_decide_eq_false hc; omega
      rw [grp_small hc] at hT
      simp only [sa0.down, sa1.down, sa2.down, sa3.down, sa4.down, sb0.down, sb1.down, sb2.down, sb3.down, ↓reduceIte, Nat.reduceEqDiff, Nat.reduceLT, Nat.reduceLeDiff, Nat.reduceAdd, Nat.reduceSub, Int.reduceToNat, Nat.reduceDiv, Int.reduceLT, Int.reduceLE, Int.reduceNeg, Int.reduceBEq, Int.reduceBNe, Int.reduceAdd, Int.reduceSub, Nat.reduceBEq, reduceCtorEq, Nat.reduceMul, TEP, pvNilI, tis, ens, nts, Tryd.results17, h0, h4, hd, conv35, lo_byte k hc, conv_one]
      rw [hT]
      exact ⟨⟨rfl, by decide⟩, by simp only [maxLen]; omega, Reif.dat rfl⟩

end Go.Proofs.YtbikgbnhngmohaaDoor
