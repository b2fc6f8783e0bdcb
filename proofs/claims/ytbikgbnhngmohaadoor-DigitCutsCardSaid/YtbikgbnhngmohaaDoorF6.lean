/- Functions of the program, part 6. -/
import Derived.Test.YtbikgbnhngmohaaDoorF5
import Derived.Test.YtbikgbnhngmohaaDoorA9
set_option linter.unusedVariables false
set_option linter.unusedSimpArgs false
set_option linter.unnecessarySimpa false
namespace Go.Proofs.YtbikgbnhngmohaaDoor
open Go Go.Proofs Go.Abs Go.RowKit

abbrev vb (c : UInt8) : V := .int .u8 c.toNat

/-- The groups of a number. -/
def grp (n : Nat) : By := if h : n < 128 then [UInt8.ofNat n] else UInt8.ofNat (n % 128 + 128) :: grp (n / 128)
termination_by n
decreasing_by omega
theorem grp_small {n : Nat} (h : n < 128) : grp n = [UInt8.ofNat n] := by rw [grp, dif_pos h]
theorem grp_big {n : Nat} (h : ¬ n < 128) : grp n = UInt8.ofNat (n % 128 + 128) :: grp (n / 128) := by rw [grp, dif_neg h]
theorem grp_len : ∀ (k n : Nat), n < 128 ^ (k + 1) → (grp n).length ≤ k + 1
  | 0, n, h => by rw [grp_small (by simpa using h)]; simp
  | k + 1, n, h => by
    by_cases hn : n < 128
    · rw [grp_small hn]; simp
    · rw [grp_big hn, List.length_cons]
      have := grp_len k (n / 128) (by rw [Nat.pow_succ] at h; omega)
      omega

theorem or_all : ∀ m : Fin 256, IntKind.u8.wrap (((BitVec.ofInt 8 (m.val : Int)) ||| (BitVec.ofInt 8 128)).toNat : Int) = ((m.val % 128 + 128 : Nat) : Int) := by decide +kernel
theorem or_byte (n : Nat) : IntKind.u8.wrap (((BitVec.ofInt 8 (IntKind.u8.wrap (n : Int))) ||| (BitVec.ofInt 8 128)).toNat : Int) = ((UInt8.ofNat (n % 128 + 128)).toNat : Int) := by
  have h1 : IntKind.u8.wrap (n : Int) = ((n % 256 : Nat) : Int) := by rw [IntKind.wrap_u8]; omega
  rw [h1]
  have := or_all ⟨n % 256, by omega⟩
  dsimp only at this
  rw [this, UInt8.toNat_ofNat']
  omega
theorem or_byte' (n : Nat) : IntKind.u8.wrap (((BitVec.ofInt IntKind.u8.bits (IntKind.u8.wrap (n : Int))) ||| (BitVec.ofInt IntKind.u8.bits 128)).toNat : Int) = ((UInt8.ofNat (n % 128 + 128)).toNat : Int) := or_byte n
theorem conv35 (h : H) (n : Int) : pvConv P h 3 5 (vi n) = (True, .int .u8 (IntKind.u8.wrap n)) := by simp only [pvConv, tis]
theorem conv53 (h : H) (n : Int) : pvConv P h 5 3 (.int .u8 n) = (True, vi (IntKind.i64.wrap n)) := by simp only [pvConv, tis]
theorem shr7 (n : Nat) : (n : Int).fdiv (2 ^ (min 7 IntKind.i64.bits)) = ((n / 128 : Nat) : Int) := by
  show (n : Int).fdiv 128 = _
  rw [Int.fdiv_eq_ediv_of_nonneg _ (by decide)]
  rfl
theorem lo_byte (n : Nat) (h : n < 128) : IntKind.u8.wrap (n : Int) = ((UInt8.ofNat n).toNat : Int) := by
  rw [IntKind.wrap_u8, UInt8.toNat_ofNat']; omega

/-- The heap while groups are being put. -/
def HD (L : (Nat → V) → LoopState → Option Code → O) (out : By) (n : Nat) (st : LoopState) (h : H) : Prop :=
  ∃ t, t 4 = .lp 0 0 ∧ ((out = [] ∧ h = [.cells [.nils], .cells [vi n], .misc .dfd, L t st none]) ∨ h = [.cells [.ls 4 1 0 out.length out.length], .cells [vi n], .misc .dfd, L t st none, .cells (out.map vb)])

set_option maxHeartbeats 2000000 in
theorem parts1_calls (L : (Nat → V) → LoopState → Option Code → O) (hL : ∀ p t st c, (L t st c).drop p = L (fun i => (t i).drop p) st c) (n0 : Nat) (hn : n0 ≤ 2147483647) (h : H) (h0 : HD L [] n0 .ready h)
    (step : ∀ out c n h, HD L out n .ready h → out.length ≤ 100 → Gets TE 3 [vb c] h fun j h'' p => j = none ∧ (∀ i, i < 4 → p i = false) ∧ HD L (out ++ [c]) n .ready h'') :
    ACalls TE 30 ([] ++ [.yd 3] ++ [.lp 1 0]) h fun ae h' p => (∀ i, i < 4 → p i = false) ∧ match ae with
      | .ret _ => ∃ n', HD L (grp n0) n' .ready h'
      | .pan _ => False := by
  have hM : maxLen = 9223372036854775807 := rfl
  have hgl := grp_len 4 n0 (by omega)
  refine ACalls.of_awp Tryd.func30 rfl (by simp [nts]) (vc_ok mixed _ _ _ _ ?_)
  simp only [sa0.down, sa1.down, sa2.down, sa3.down, sa4.down, sb0.down, sb1.down, sb2.down, sb3.down, ↓reduceIte, Nat.reduceEqDiff, Nat.reduceLT, Nat.reduceLeDiff, Nat.reduceAdd, Nat.reduceSub, Int.reduceToNat, Nat.reduceDiv, Int.reduceLT, Int.reduceLE, Int.reduceNeg, Int.reduceBEq, Int.reduceBNe, Int.reduceAdd, Int.reduceSub, Nat.reduceBEq, reduceCtorEq, Nat.reduceMul, TEP, pvNilI, tis, ens, nts, Tryd.results30]
  refine awp_loop (fun m f h => ∃ out n, m = n ∧ f.t 0 = .yd 3 ∧ f.t 1 = .lp 1 0 ∧ f.d = [] ∧ (∀ i, i < 4 → f.k i = false) ∧ HD L out n .ready h ∧ grp n0 = out ++ grp n ∧ n ≤ 2147483647) n0 ⟨[], n0, rfl, rfl, rfl, rfl, fun _ _ => rfl, h0, rfl, hn⟩ ?_
  rintro m f h ⟨out, n, rfl, h0, h1, hd, hk, hHD, hgrp, hnn⟩
  have hol : out.length ≤ 5 := by
    have := congrArg List.length hgrp
    rw [List.length_append] at this
    omega
  have hcell : h[1]? = some (.cells [vi m]) := by
    obtain ⟨t, _, ⟨_, rfl⟩ | rfl⟩ := hHD <;> rfl
  have hk3 := hk 3 (by omega)
  refine vc_ok mixed _ _ _ _ ?_
  simp only [sa0.down, sa1.down, sa2.down, sa3.down, sa4.down, sb0.down, sb1.down, sb2.down, sb3.down, ↓reduceIte, Nat.reduceEqDiff, Nat.reduceLT, Nat.reduceLeDiff, Nat.reduceAdd, Nat.reduceSub, Int.reduceToNat, Nat.reduceDiv, Int.reduceLT, Int.reduceLE, Int.reduceNeg, Int.reduceBEq, Int.reduceBNe, Int.reduceAdd, Int.reduceSub, Nat.reduceBEq, reduceCtorEq, Nat.reduceMul, TEP, pvNilI, tis, ens, nts, Tryd.results30, h0, h1, hd, hk3, hcell]
  refine vcB.mk (fun hc => ?_) (fun hc => ?_)
  · have hc : ¬ m < 128 := by have := of_decide_eq_true hc; omega
    obtain ⟨t, n', ps, asg, body, pend, hLp, hsz, hps, hw⟩ := step out (UInt8.ofNat (m % 128 + 128)) m h hHD (by omega)
    simp only [sa0.down, sa1.down, sa2.down, sa3.down, sa4.down, sb0.down, sb1.down, sb2.down, sb3.down, ↓reduceIte, Nat.reduceEqDiff, Nat.reduceLT, Nat.reduceLeDiff, Nat.reduceAdd, Nat.reduceSub, Int.reduceToNat, Nat.reduceDiv, Int.reduceLT, Int.reduceLE, Int.reduceNeg, Int.reduceBEq, Int.reduceBNe, Int.reduceAdd, Int.reduceSub, Nat.reduceBEq, reduceCtorEq, Nat.reduceMul, TEP, pvNilI, tis, ens, nts, Tryd.results30, h0, h1, hd, hk3, hcell, conv35, or_byte', hLp]
    refine ⟨⟨by simpa using hsz, hps⟩, yieldK_of hw ?_⟩
    rintro j h' p hp ⟨rfl, hp5, hHD'⟩
    have hcell : h'[1]? = some (.cells [vi m]) := by
      obtain ⟨t, _, ⟨_, rfl⟩ | rfl⟩ := hHD' <;> rfl
    have hp1 := hp5 1 (by omega)
    refine ⟨by simp [put_d, hd], ?_⟩
    simp only [sa0.down, sa1.down, sa2.down, sa3.down, sa4.down, sb0.down, sb1.down, sb2.down, sb3.down, ↓reduceIte, Nat.reduceEqDiff, Nat.reduceLT, Nat.reduceLeDiff, Nat.reduceAdd, Nat.reduceSub, Int.reduceToNat, Nat.reduceDiv, Int.reduceLT, Int.reduceLE, Int.reduceNeg, Int.reduceBEq, Int.reduceBNe, Int.reduceAdd, Int.reduceSub, Nat.reduceBEq, reduceCtorEq, Nat.reduceMul, TEP, pvNilI, tis, ens, nts, Tryd.results30, h0, h1, hd, hk3, hp, hp1, hcell, Option.isNone_none, shr7]
    refine .inl ⟨m / 128, by omega, out ++ [UInt8.ofNat (m % 128 + 128)], m / 128, rfl, by simp only [sa0.down, sa1.down, sa2.down, sa3.down, sa4.down, sb0.down, sb1.down, sb2.down, sb3.down, ↓reduceIte, Nat.reduceEqDiff, Nat.reduceLT, Nat.reduceLeDiff, Nat.reduceAdd, Nat.reduceSub, Int.reduceToNat, Nat.reduceDiv, Int.reduceLT, Int.reduceLE, Int.reduceNeg, Int.reduceBEq, Int.reduceBNe, Int.reduceAdd, Int.reduceSub, Nat.reduceBEq, reduceCtorEq, Nat.reduceMul, TEP, pvNilI, tis, ens, nts, Tryd.results30, h0, hp], by simp only [sa0.down, sa1.down, sa2.down, sa3.down, sa4.down, sb0.down, sb1.down, sb2.down, sb3.down, ↓reduceIte, Nat.reduceEqDiff, Nat.reduceLT, Nat.reduceLeDiff, Nat.reduceAdd, Nat.reduceSub, Int.reduceToNat, Nat.reduceDiv, Int.reduceLT, Int.reduceLE, Int.reduceNeg, Int.reduceBEq, Int.reduceBNe, Int.reduceAdd, Int.reduceSub, Nat.reduceBEq, reduceCtorEq, Nat.reduceMul, TEP, pvNilI, tis, ens, nts, Tryd.results30, h1, hp1], by simp only [sa0.down, sa1.down, sa2.down, sa3.down, sa4.down, sb0.down, sb1.down, sb2.down, sb3.down, ↓reduceIte, Nat.reduceEqDiff, Nat.reduceLT, Nat.reduceLeDiff, Nat.reduceAdd, Nat.reduceSub, Int.reduceToNat, Nat.reduceDiv, Int.reduceLT, Int.reduceLE, Int.reduceNeg, Int.reduceBEq, Int.reduceBNe, Int.reduceAdd, Int.reduceSub, Nat.reduceBEq, reduceCtorEq, Nat.reduceMul, TEP, pvNilI, tis, ens, nts, Tryd.results30, hd], fun i hi => ?_, ?_, ?_, by omega⟩
    · simp only [put_k, drop_k, hk i hi, hp5 i hi, Bool.or_self]
    · obtain ⟨t, ht, ⟨he, rfl⟩ | rfl⟩ := hHD'
      · exact ⟨t, ht, .inl ⟨he, rfl⟩⟩
      · exact ⟨t, ht, .inr rfl⟩
    · rw [hgrp, grp_big hc, List.append_assoc]; rfl
  · have hc : m < 128 := by have := of_decide_eq_false hc; omega
    obtain ⟨t, n', ps, asg, body, pend, hLp, hsz, hps, hw⟩ := step out (UInt8.ofNat m) m h hHD (by omega)
    simp only [sa0.down, sa1.down, sa2.down, sa3.down, sa4.down, sb0.down, sb1.down, sb2.down, sb3.down, ↓reduceIte, Nat.reduceEqDiff, Nat.reduceLT, Nat.reduceLeDiff, Nat.reduceAdd, Nat.reduceSub, Int.reduceToNat, Nat.reduceDiv, Int.reduceLT, Int.reduceLE, Int.reduceNeg, Int.reduceBEq, Int.reduceBNe, Int.reduceAdd, Int.reduceSub, Nat.reduceBEq, reduceCtorEq, Nat.reduceMul, TEP, pvNilI, tis, ens, nts, Tryd.results30, h0, h1, hd, hk3, hcell, conv35, lo_byte m hc, hLp]
    refine ⟨⟨by simpa using hsz, hps⟩, yieldK_of hw ?_⟩
    rintro j h' p hp ⟨rfl, hp5, hHD'⟩
    refine ⟨by simp [put_d, hd], ?_⟩
    simp only [sa0.down, sa1.down, sa2.down, sa3.down, sa4.down, sb0.down, sb1.down, sb2.down, sb3.down, ↓reduceIte, Nat.reduceEqDiff, Nat.reduceLT, Nat.reduceLeDiff, Nat.reduceAdd, Nat.reduceSub, Int.reduceToNat, Nat.reduceDiv, Int.reduceLT, Int.reduceLE, Int.reduceNeg, Int.reduceBEq, Int.reduceBNe, Int.reduceAdd, Int.reduceSub, Nat.reduceBEq, reduceCtorEq, Nat.reduceMul, TEP, pvNilI, tis, ens, nts, Tryd.results30, h0, h1, hd, hk3, hp]
    exact ⟨fun i hi => by rw [hk i hi, hp5 i hi]; rfl, m, by rw [hgrp, grp_small hc]; exact hHD'⟩

theorem parts_calls (n : Int) (o0 : O) (R : AEnd → H → (Nat → Bool) → Prop) (hr : R (.ret (.fn (.func 30) [] [.lp 1 0])) [o0, .cells [vi n]] (fun _ => false)) : ACalls TE 25 [vi n] [o0] R := by
  refine ACalls.of_awp Tryd.func25 rfl (by simp [nts]) (vc_ok mixed _ _ _ _ ?_)
  simp only [sa0.down, sa1.down, sa2.down, sa3.down, sa4.down, sb0.down, sb1.down, sb2.down, sb3.down, ↓reduceIte, Nat.reduceEqDiff, Nat.reduceLT, Nat.reduceLeDiff, Nat.reduceAdd, Nat.reduceSub, Int.reduceToNat, Nat.reduceDiv, Int.reduceLT, Int.reduceLE, Int.reduceNeg, Int.reduceBEq, Int.reduceBNe, Int.reduceAdd, Int.reduceSub, Nat.reduceBEq, reduceCtorEq, Nat.reduceMul, TEP, pvNilI, tis, ens, nts, Tryd.results25]
  exact hr

theorem vbytes_vb : ∀ l : By, vbytes (l.map vb) = some l
  | [] => rfl
  | c :: l => by
    simp only [List.map_cons, vbytes, vbytes_vb l, Option.map_some]
    congr 2
    exact UInt8.ofNat_toNat

theorem conv_bytes {h : H} {l : By} {k cap : Nat} (hc : h[k]? = some (.cells (l.map vb)))   : (pvConv P h 34 9 (.ls k 1 0 l.length cap)).1 = True ∧ (pvConv P h 34 9 (.ls k 1 0 l.length cap)).2 = .str l := by
  have h1 : hcells h k = l.map vb := by simp only [hcells, hc]
  have h2 : vbytes (((hcells h k).drop 0).take l.length) = some l := by
    rw [h1, List.drop_zero, List.take_of_length_le (by simp), vbytes_vb]
  have h3 : 0 + l.length ≤ (hcells h k).length := by rw [h1]; simp
  unfold pvConv
  simp only [tis, h2]
  exact ⟨eq_true ⟨trivial, trivial, h3⟩, trivial⟩

theorem drops_vb {p : Nat → Bool} : ∀ c : By, V.drops p (c.map vb) = c.map vb
  | [] => rfl
  | a :: c => by simp only [List.map_cons, V.drops, V.drop, drops_vb c]

/-- What Delta tells. -/
def deltaV (n : Int) : By × Int := if fitsB n = true then (grp n.toNat, 0) else ([], 3)

set_option maxHeartbeats 2000000 in
theorem ev_Delta (n : Int) : Ev TE 16 [vi n] (.tup [.str (deltaV n).1, vi (deltaV n).2]) := by
  refine Ev.of_awp Tryd.func16 rfl (by simp [nts]) (vc_ok mixed _ _ _ _ ?_)
  simp only [sa0.down, sa1.down, sa2.down, sa3.down, sa4.down, sb0.down, sb1.down, sb2.down, sb3.down, ↓reduceIte, Nat.reduceEqDiff, Nat.reduceLT, Nat.reduceLeDiff, Nat.reduceAdd, Nat.reduceSub, Int.reduceToNat, Nat.reduceDiv, Int.reduceLT, Int.reduceLE, Int.reduceNeg, Int.reduceBEq, Int.reduceBNe, Int.reduceAdd, Int.reduceSub, Nat.reduceBEq, reduceCtorEq, Nat.reduceMul, TEP, pvNilI, tis, ens, nts, Tryd.results16]
  refine ACalls.ev (ev_fits n) rfl ?_
  unfold deltaV
  cases hf : fitsB n with
  | false =>
    simp only [sa0.down, sa1.down, sa2.down, sa3.down, sa4.down, sb0.down, sb1.down, sb2.down, sb3.down, ↓reduceIte, Nat.reduceEqDiff, Nat.reduceLT, Nat.reduceLeDiff, Nat.reduceAdd, Nat.reduceSub, Int.reduceToNat, Nat.reduceDiv, Int.reduceLT, Int.reduceLE, Int.reduceNeg, Int.reduceBEq, Int.reduceBNe, Int.reduceAdd, Int.reduceSub, Nat.reduceBEq, reduceCtorEq, Nat.reduceMul, TEP, pvNilI, tis, ens, nts, Tryd.results16]
    exact Reif.dat rfl
  | true =>
    have hf : 0 ≤ n ∧ n ≤ 2147483647 := by simpa [fitsB] using hf
    obtain ⟨m, rfl⟩ : ∃ m : Nat, n = m := ⟨n.toNat, by omega⟩
    rw [if_pos rfl, Int.toNat_natCast]
    simp only [sa0.down, sa1.down, sa2.down, sa3.down, sa4.down, sb0.down, sb1.down, sb2.down, sb3.down, ↓reduceIte, Nat.reduceEqDiff, Nat.reduceLT, Nat.reduceLeDiff, Nat.reduceAdd, Nat.reduceSub, Int.reduceToNat, Nat.reduceDiv, Int.reduceLT, Int.reduceLE, Int.reduceNeg, Int.reduceBEq, Int.reduceBNe, Int.reduceAdd, Int.reduceSub, Nat.reduceBEq, reduceCtorEq, Nat.reduceMul, TEP, pvNilI, tis, ens, nts, Tryd.results16]
    refine parts_calls _ _ _ ?_
    simp only [sa0.down, sa1.down, sa2.down, sa3.down, sa4.down, sb0.down, sb1.down, sb2.down, sb3.down, ↓reduceIte, Nat.reduceEqDiff, Nat.reduceLT, Nat.reduceLeDiff, Nat.reduceAdd, Nat.reduceSub, Int.reduceToNat, Nat.reduceDiv, Int.reduceLT, Int.reduceLE, Int.reduceNeg, Int.reduceBEq, Int.reduceBNe, Int.reduceAdd, Int.reduceSub, Nat.reduceBEq, reduceCtorEq, Nat.reduceMul, TEP, pvNilI, tis, ens, nts, Tryd.results16]
    refine awp_rangeG (n := 18) (q := 30) (first := []) (captured := [.lp 1 0]) (by simp only [sa0.down, sa1.down, sa2.down, sa3.down, sa4.down, sb0.down, sb1.down, sb2.down, sb3.down, ↓reduceIte, Nat.reduceEqDiff, Nat.reduceLT, Nat.reduceLeDiff, Nat.reduceAdd, Nat.reduceSub, Int.reduceToNat, Nat.reduceDiv, Int.reduceLT, Int.reduceLE, Int.reduceNeg, Int.reduceBEq, Int.reduceBNe, Int.reduceAdd, Int.reduceSub, Nat.reduceBEq, reduceCtorEq, Nat.reduceMul, TEP, pvNilI, tis, ens, nts, Tryd.results16]) (by simp only [sa0.down, sa1.down, sa2.down, sa3.down, sa4.down, sb0.down, sb1.down, sb2.down, sb3.down, ↓reduceIte, Nat.reduceEqDiff, Nat.reduceLT, Nat.reduceLeDiff, Nat.reduceAdd, Nat.reduceSub, Int.reduceToNat, Nat.reduceDiv, Int.reduceLT, Int.reduceLE, Int.reduceNeg, Int.reduceBEq, Int.reduceBNe, Int.reduceAdd, Int.reduceSub, Nat.reduceBEq, reduceCtorEq, Nat.reduceMul, TEP, pvNilI, tis, ens, nts, Tryd.results16]) rfl (by decide) ?_
    intro L hLd gets
    refine ACalls.mono (parts1_calls L hLd m (by omega) _ ⟨_, ?_, .inl ⟨rfl, rfl⟩⟩ ?_) ?_
    · rfl
    · rintro out c n h ⟨t, ht4, ⟨rfl, rfl⟩ | rfl⟩ hol
      · refine gets _ _ _ t rfl rfl (fun lb => ?_)
        refine vc_ok mixed _ _ _ _ ?_
        simp only [sa0.down, sa1.down, sa2.down, sa3.down, sa4.down, sb0.down, sb1.down, sb2.down, sb3.down, ↓reduceIte, Nat.reduceEqDiff, Nat.reduceLT, Nat.reduceLeDiff, Nat.reduceAdd, Nat.reduceSub, Int.reduceToNat, Nat.reduceDiv, Int.reduceLT, Int.reduceLE, Int.reduceNeg, Int.reduceBEq, Int.reduceBNe, Int.reduceAdd, Int.reduceSub, Nat.reduceBEq, reduceCtorEq, Nat.reduceMul, TEP, pvNilI, tis, ens, nts, Tryd.results16, ht4, beginG]
        refine ⟨t, rfl, ?_⟩
        refine vc_ok mixed _ _ _ _ ?_
        simp only [sa0.down, sa1.down, sa2.down, sa3.down, sa4.down, sb0.down, sb1.down, sb2.down, sb3.down, ↓reduceIte, Nat.reduceEqDiff, Nat.reduceLT, Nat.reduceLeDiff, Nat.reduceAdd, Nat.reduceSub, Int.reduceToNat, Nat.reduceDiv, Int.reduceLT, Int.reduceLE, Int.reduceNeg, Int.reduceBEq, Int.reduceBNe, Int.reduceAdd, Int.reduceSub, Nat.reduceBEq, reduceCtorEq, Nat.reduceMul, TEP, pvNilI, tis, ens, nts, Tryd.results16, ht4, roundG, XE.jump]
        exact ⟨⟨rfl, by decide⟩, by decide, t, _, rfl, t, ht4, .inr rfl⟩
      · refine gets _ _ _ t rfl rfl (fun lb => ?_)
        refine vc_ok mixed _ _ _ _ ?_
        simp only [sa0.down, sa1.down, sa2.down, sa3.down, sa4.down, sb0.down, sb1.down, sb2.down, sb3.down, ↓reduceIte, Nat.reduceEqDiff, Nat.reduceLT, Nat.reduceLeDiff, Nat.reduceAdd, Nat.reduceSub, Int.reduceToNat, Nat.reduceDiv, Int.reduceLT, Int.reduceLE, Int.reduceNeg, Int.reduceBEq, Int.reduceBNe, Int.reduceAdd, Int.reduceSub, Nat.reduceBEq, reduceCtorEq, Nat.reduceMul, TEP, pvNilI, tis, ens, nts, Tryd.results16, ht4, beginG]
        refine ⟨t, rfl, ?_⟩
        refine vc_ok mixed _ _ _ _ ?_
        simp only [sa0.down, sa1.down, sa2.down, sa3.down, sa4.down, sb0.down, sb1.down, sb2.down, sb3.down, ↓reduceIte, Nat.reduceEqDiff, Nat.reduceLT, Nat.reduceLeDiff, Nat.reduceAdd, Nat.reduceSub, Int.reduceToNat, Nat.reduceDiv, Int.reduceLT, Int.reduceLE, Int.reduceNeg, Int.reduceBEq, Int.reduceBNe, Int.reduceAdd, Int.reduceSub, Nat.reduceBEq, reduceCtorEq, Nat.reduceMul, TEP, pvNilI, tis, ens, nts, Tryd.results16, ht4, roundG, XE.jump]
        refine ⟨⟨rfl, by decide⟩, ⟨by omega, by simp only [maxLen]; omega, by omega⟩, fun i => (t i).drop fun x => x == 4, _, by rw [hLd], fun i hi => by simp; omega, fun i => (t i).drop fun x => x == 4, by simp only [ht4, V.drop]; rfl, .inr ?_⟩
        rw [drops_vb, List.map_append, List.length_append]
        rfl
    · rintro ae h' p ⟨hp5, hr⟩
      cases ae with
      | pan v => exact hr.elim
      | ret v =>
        obtain ⟨n', t, ht4, hh⟩ := hr
        have hne : grp m ≠ [] := by
          by_cases h : m < 128
          · rw [grp_small h]; simp
          · rw [grp_big h]; simp
        rcases hh with ⟨hh, _⟩ | rfl
        · exact absurd hh hne
        · refine ⟨?_, hp5 3 (by omega), t, _, none, (by decide), rfl, ?_⟩
          · intro i hi
            have hi : i = 2 := by simpa [put_d, init_d] using hi
            subst hi
            exact hp5 2 (by omega)
          · have k0 := hp5 0 (by omega)
            have k1 := hp5 1 (by omega)
            have k2 := hp5 2 (by omega)
            have k3 := hp5 3 (by omega)
            simp only [sa0.down, sa1.down, sa2.down, sa3.down, sa4.down, sb0.down, sb1.down, sb2.down, sb3.down, ↓reduceIte, Nat.reduceEqDiff, Nat.reduceLT, Nat.reduceLeDiff, Nat.reduceAdd, Nat.reduceSub, Int.reduceToNat, Nat.reduceDiv, Int.reduceLT, Int.reduceLE, Int.reduceNeg, Int.reduceBEq, Int.reduceBNe, Int.reduceAdd, Int.reduceSub, Nat.reduceBEq, reduceCtorEq, Nat.reduceMul, TEP, pvNilI, tis, ens, nts, Tryd.results16, jumpQ, k0, k1, k2, k3]
            obtain ⟨e1, e2⟩ := conv_bytes (h := [.cells [.ls 4 1 0 (grp m).length (grp m).length], .cells [vi n'], .misc .dfd, L t .exhausted none, .cells ((grp m).map vb)]) (l := grp m) (k := 4) (cap := (grp m).length) rfl
            rw [e1, e2]
            refine ⟨trivial, ?_⟩
            clear e1 e2 hne
            generalize grp m = g
            exact Reif.dat rfl

end Go.Proofs.YtbikgbnhngmohaaDoor
