/- Functions of the program, part 7. -/
import Derived.Test.YtbikgbnhngmohaaDoorF6
set_option linter.unusedVariables false
set_option linter.unusedSimpArgs false
set_option linter.unnecessarySimpa false
namespace Go.Proofs.YtbikgbnhngmohaaDoor
open Go Go.Proofs Go.Abs Go.RowKit

/-- What groups spell, the least one first. -/
def vgD : By → Nat
  | [] => 0
  | c :: l => c.toNat % 128 + 128 * vgD l
theorem vgD_snoc (c : UInt8) : ∀ x : By, vgD (x ++ [c]) = vgD x + c.toNat % 128 * 128 ^ x.length
  | [] => by simp [vgD]
  | a :: x => by
    rw [List.cons_append, vgD, vgD, vgD_snoc c x, List.length_cons, Nat.pow_succ, Nat.mul_add]
    have : 128 * (c.toNat % 128 * 128 ^ x.length) = c.toNat % 128 * (128 ^ x.length * 128) := by
      rw [Nat.mul_comm (128 ^ x.length) 128, ← Nat.mul_assoc, ← Nat.mul_assoc, Nat.mul_comm 128 (c.toNat % 128)]
    omega
theorem vgD_lt : ∀ x : By, vgD x < 128 ^ x.length
  | [] => by simp [vgD]
  | a :: x => by
    have := vgD_lt x
    rw [vgD, List.length_cons, Nat.pow_succ]
    omega

def goodG (l : By) : Prop := vgD l ≤ 2147483647 ∧ grp (vgD l) = l
instance (l : By) : Decidable (goodG l) := by unfold goodG; infer_instance

theorem or_i64 {a b : Nat} (ha : a < 2 ^ 62) (hb : b < 2 ^ 62) : IntKind.i64.wrap (((BitVec.ofInt IntKind.i64.bits (a : Int)) ||| (BitVec.ofInt IntKind.i64.bits (b : Int))).toNat : Int) = ((a ||| b : Nat) : Int) := by
  show IntKind.i64.wrap (((BitVec.ofInt 64 (a : Int)) ||| (BitVec.ofInt 64 (b : Int))).toNat : Int) = _
  have h1 : (a ||| b) < 2 ^ 62 := Nat.or_lt_two_pow ha hb
  rw [BitVec.ofInt_natCast, BitVec.ofInt_natCast, BitVec.toNat_or, BitVec.toNat_ofNat, BitVec.toNat_ofNat, Nat.mod_eq_of_lt (by omega), Nat.mod_eq_of_lt (by omega), wrapn (by omega) (by omega)]

theorem andNot_all : ∀ m : Fin 256, IntKind.u8.wrap (((BitVec.ofInt 8 (m.val : Int)) &&& ~~~ (BitVec.ofInt 8 128)).toNat : Int) = ((m.val % 128 : Nat) : Int) := by decide +kernel
theorem andNot_byte (c : UInt8) : IntKind.u8.wrap (((BitVec.ofInt IntKind.u8.bits (c.toNat : Int)) &&& ~~~ (BitVec.ofInt IntKind.u8.bits 128)).toNat : Int) = ((c.toNat % 128 : Nat) : Int) :=
  andNot_all ⟨c.toNat, c.toNat_lt⟩

theorem shl_group {c i : Nat} (hc : c < 128) (hi : i < 5) : IntKind.i64.wrap ((c : Int) * 2 ^ (min ((7 * i : Nat) : Int).toNat IntKind.i64.bits)) = ((c * 128 ^ i : Nat) : Int) := by
  rw [Int.toNat_natCast, show min (7 * i) IntKind.i64.bits = 7 * i from Nat.min_eq_left (by show 7 * i ≤ 64; omega)]
  have h1 : (2 : Int) ^ (7 * i) = ((128 ^ i : Nat) : Int) := by
    rw [Int.natCast_pow, Int.pow_mul]; rfl
  have h2 : 128 ^ i ≤ 128 ^ 4 := Nat.pow_le_pow_right (by omega) (by omega)
  have h3 : c * 128 ^ i ≤ 127 * 128 ^ 4 := Nat.mul_le_mul (by omega) h2
  rw [h1, ← Int.natCast_mul, wrapn (by omega) (by omega)]

theorem or_add {a c i : Nat} (ha : a < 128 ^ i) : a ||| c * 128 ^ i = a + c * 128 ^ i := by
  have h : (128 : Nat) ^ i = 2 ^ (7 * i) := by rw [Nat.pow_mul]
  rw [h] at ha ⊢
  have := Nat.shiftLeft_add_eq_or_of_lt ha c
  rw [Nat.shiftLeft_eq] at this
  rw [Nat.or_comm, ← this, Nat.add_comm]

theorem shl_group' {c i : Nat} (hc : c < 128) (hi : i < 5) : IntKind.i64.wrap ((c : Int) * 2 ^ (min (7 * i) IntKind.i64.bits)) = ((c * 128 ^ i : Nat) : Int) := by
  have := shl_group hc hi
  rwa [Int.toNat_natCast] at this

/-- What undelta tells. -/
def undV (l : By) : Int × Int × V :=
  if (l.takeWhile fun c => decide (128 ≤ c.toNat)).length = l.length then (0, 0, werr 10)
  else if goodG (l.take ((l.takeWhile fun c => decide (128 ≤ c.toNat)).length + 1)) then ((vgD (l.take ((l.takeWhile fun c => decide (128 ≤ c.toNat)).length + 1)) : Nat), (((l.takeWhile fun c => decide (128 ≤ c.toNat)).length + 1 : Nat) : Int), .nili)
  else (0, 0, werr 3)

theorem twP {p : UInt8 → Bool} {l : By} {i : Nat} (hi : i ≤ l.length) (h1 : (l.take i).all p = true) (h2 : i < l.length → p (l.getD i 0) = false) : (l.takeWhile p).length = i := by
  have h3 : l.takeWhile p = l.take i ++ (l.drop i).takeWhile p := by
    conv => lhs; rw [← List.take_append_drop i l]
    exact List.takeWhile_append_of_pos (List.all_eq_true.1 h1)
  have h4 : (l.drop i).takeWhile p = [] := by
    by_cases hl : i < l.length
    · rw [List.drop_eq_getElem_cons hl]
      have := h2 hl
      rw [getD_at hl] at this
      rw [List.takeWhile_cons, this]; rfl
    · rw [List.drop_eq_nil_of_le (by omega)]; rfl
  rw [h3, h4, List.append_nil, List.length_take]
  omega

/-- The number that is told is good just if the groups are. -/
theorem good_five {l : By} {i : Nat} (hi : i < l.length) : (fitsB ((vgD (l.take (min (i + 1) 5)) : Nat) : Int) = true ∧ grp (vgD (l.take (min (i + 1) 5))) = l.take (i + 1)) ↔ goodG (l.take (i + 1)) := by
  have hf : ∀ n : Nat, fitsB (n : Int) = true ↔ n ≤ 2147483647 := by intro n; simp [fitsB]; omega
  rw [hf]
  unfold goodG
  by_cases h5 : i + 1 ≤ 5
  · rw [Nat.min_eq_left h5]
  · have hl : (l.take (i + 1)).length = i + 1 := by rw [List.length_take]; omega
    constructor
    · rintro ⟨h1, h2⟩
      have := grp_len 4 _ (show vgD (l.take (min (i + 1) 5)) < 128 ^ 5 by omega)
      rw [h2, hl] at this
      omega
    · rintro ⟨h1, h2⟩
      have := grp_len 4 _ (show vgD (l.take (i + 1)) < 128 ^ 5 by omega)
      rw [h2, hl] at this
      omega
theorem good_len {l : By} {i : Nat} (hi : i < l.length) (h : goodG (l.take (i + 1))) : vgD (l.take (min (i + 1) 5)) = vgD (l.take (i + 1)) := by
  by_cases h5 : i + 1 ≤ 5
  · rw [Nat.min_eq_left h5]
  · have hl : (l.take (i + 1)).length = i + 1 := by rw [List.length_take]; omega
    have := grp_len 4 _ (show vgD (l.take (i + 1)) < 128 ^ 5 by have := h.1; omega)
    rw [h.2, hl] at this
    omega

set_option maxHeartbeats 4000000 in
theorem ev_undelta (l : By) (hl : l.length ≤ 100000) : Ev TE 26 [.str l] (.tup [vi (undV l).1, vi (undV l).2.1, (undV l).2.2]) := by
  have hM : maxLen = 9223372036854775807 := rfl
  refine Ev.of_awp Tryd.func26 rfl (by simp [nts]) (vc_ok mixed _ _ _ _ ?_)
  simp only [sa0.down, sa1.down, sa2.down, sa3.down, sa4.down, sb0.down, sb1.down, sb2.down, sb3.down, ↓reduceIte, Nat.reduceEqDiff, Nat.reduceLT, Nat.reduceLeDiff, Nat.reduceAdd, Nat.reduceSub, Int.reduceToNat, Nat.reduceDiv, Int.reduceLT, Int.reduceLE, Int.reduceNeg, Int.reduceBEq, Int.reduceBNe, Int.reduceAdd, Int.reduceSub, Nat.reduceBEq, reduceCtorEq, Nat.reduceMul, TEP, pvNilI, tis, ens, nts, Tryd.results26]
  refine awp_loop (fun m f h => ∃ i, m + i = l.length ∧ f.t 0 = .str l ∧ f.t 5 = vi (vgD (l.take (min i 5)) : Nat) ∧ f.t 10 = vi l.length ∧ f.t 11 = vi i ∧ f.d = [] ∧ h = [] ∧ (l.take i).all (fun c => decide (128 ≤ c.toNat)) = true) l.length ⟨0, by omega, rfl, by simp [vgD]; rfl, rfl, rfl, rfl, rfl, by simp⟩ ?_
  rintro m f h ⟨i, hm, h0, h5, h10, h11, hd, rfl, hall⟩
  have hpow : (128 : Nat) ^ 5 = 34359738368 := by decide
  refine vc_ok mixed _ _ _ _ ?_
  simp only [sa0.down, sa1.down, sa2.down, sa3.down, sa4.down, sb0.down, sb1.down, sb2.down, sb3.down, ↓reduceIte, Nat.reduceEqDiff, Nat.reduceLT, Nat.reduceLeDiff, Nat.reduceAdd, Nat.reduceSub, Int.reduceToNat, Nat.reduceDiv, Int.reduceLT, Int.reduceLE, Int.reduceNeg, Int.reduceBEq, Int.reduceBNe, Int.reduceAdd, Int.reduceSub, Nat.reduceBEq, reduceCtorEq, Nat.reduceMul, TEP, pvNilI, tis, ens, nts, Tryd.results26, h0, h5, h10, h11, hd]
  refine vcB.mk (fun hlt => ?_) (fun hlt => ?_)
  · simp only [decide_eq_true_eq, Int.ofNat_lt] at hlt
    simp only [sa0.down, sa1.down, sa2.down, sa3.down, sa4.down, sb0.down, sb1.down, sb2.down, sb3.down, ↓reduceIte, Nat.reduceEqDiff, Nat.reduceLT, Nat.reduceLeDiff, Nat.reduceAdd, Nat.reduceSub, Int.reduceToNat, Nat.reduceDiv, Int.reduceLT, Int.reduceLE, Int.reduceNeg, Int.reduceBEq, Int.reduceBNe, Int.reduceAdd, Int.reduceSub, Nat.reduceBEq, reduceCtorEq, Nat.reduceMul, TEP, pvNilI, tis, ens, nts, Tryd.results26, h0, h5, h10, h11, hd]
    have hmin : ∀ h : i < 5, vgD (l.take (min (i + 1) 5)) = vgD (l.take (min i 5)) + (l.getD i 0).toNat % 128 * 128 ^ i := by
      intro h
      rw [Nat.min_eq_left (by omega), Nat.min_eq_left (by omega), List.take_add_one, List.getElem?_eq_getElem hlt, Option.toList_some, vgD_snoc, getD_at hlt, List.length_take, Nat.min_eq_left (by omega)]
    refine vcB.mk (fun h5' => ?_) (fun h5' => ?_)
    · have hi5 : i < 5 := by have := of_decide_eq_true h5'; omega
      have hlow : vgD (l.take (min i 5)) < 128 ^ i := by
        have := vgD_lt (l.take i)
        rw [List.length_take, Nat.min_eq_left (show i ≤ l.length by omega)] at this
        rw [Nat.min_eq_left (show i ≤ 5 by omega)]
        exact this
      have hp4 : 128 ^ i ≤ 128 ^ 4 := Nat.pow_le_pow_right (by omega) (by omega)
      have hcm : (l.getD i 0).toNat % 128 < 128 := Nat.mod_lt _ (by omega)
      have hcm2 : (l.getD i 0).toNat % 128 * 128 ^ i ≤ 127 * 128 ^ 4 := Nat.mul_le_mul (by omega) hp4
      have hw1 : IntKind.i64.wrap (((l.getD i 0).toNat % 128 : Nat) : Int) = (((l.getD i 0).toNat % 128 : Nat) : Int) := wrapn (by omega) (by omega)
      have hw2 : IntKind.i64.wrap (7 * (i : Int)) = ((7 * i : Nat) : Int) := by rw [wrapn (by omega) (by omega)]; omega
      have hor := or_i64 (a := vgD (l.take (min i 5))) (b := (l.getD i 0).toNat % 128 * 128 ^ i) (by omega) (by omega)
      rw [or_add hlow, ← hmin hi5] at hor
      simp only [sa0.down, sa1.down, sa2.down, sa3.down, sa4.down, sb0.down, sb1.down, sb2.down, sb3.down, ↓reduceIte, Nat.reduceEqDiff, Nat.reduceLT, Nat.reduceLeDiff, Nat.reduceAdd, Nat.reduceSub, Int.reduceToNat, Nat.reduceDiv, Int.reduceLT, Int.reduceLE, Int.reduceNeg, Int.reduceBEq, Int.reduceBNe, Int.reduceAdd, Int.reduceSub, Nat.reduceBEq, reduceCtorEq, Nat.reduceMul, TEP, pvNilI, tis, ens, nts, Tryd.results26, h0, h5, h10, h11, hd, conv53, andNot_byte, hw1, hw2, shl_group' hcm hi5, hor]
      refine ⟨⟨by omega, by omega⟩, by omega, ⟨by omega, by omega⟩, ?_⟩
      cases hD : decide (128 ≤ (l.getD i 0).toNat) with
      | true =>
        have hall2 : (l.take (i + 1)).all (fun c => decide (128 ≤ c.toNat)) = true := by
          have hD2 : decide (128 ≤ (l[i]).toNat) = true := by rw [← getD_at (d := 0) hlt]; exact hD
          rw [List.take_add_one, List.all_append, hall, List.getElem?_eq_getElem hlt, Option.toList_some, List.all_cons, hD2]
          rfl
        have hD3 : decide ((128 : Int) ≤ ((l.getD i 0).toNat : Int)) = true := by have := of_decide_eq_true hD; rw [decide_eq_true_eq]; omega
        simp only [sa0.down, sa1.down, sa2.down, sa3.down, sa4.down, sb0.down, sb1.down, sb2.down, sb3.down, ↓reduceIte, Nat.reduceEqDiff, Nat.reduceLT, Nat.reduceLeDiff, Nat.reduceAdd, Nat.reduceSub, Int.reduceToNat, Nat.reduceDiv, Int.reduceLT, Int.reduceLE, Int.reduceNeg, Int.reduceBEq, Int.reduceBNe, Int.reduceAdd, Int.reduceSub, Nat.reduceBEq, reduceCtorEq, Nat.reduceMul, TEP, pvNilI, tis, ens, nts, Tryd.results26, h0, h10, h11, hd, hD3, wrap_succ (show i < maxLen by omega)]
        exact .inl ⟨m - 1, by omega, i + 1, by omega, h0, rfl, h10, rfl, hd, rfl, hall2⟩
      | false =>
        have hD3 : decide ((128 : Int) ≤ ((l.getD i 0).toNat : Int)) = false := by have := of_decide_eq_false hD; rw [decide_eq_false_iff_not]; omega
        have hlen := twP (p := fun c => decide (128 ≤ c.toNat)) (l := l) (i := i) (by omega) hall (fun _ => hD)
        have hu : undV l = if goodG (l.take (i + 1)) then (((vgD (l.take (i + 1)) : Nat) : Int), ((i + 1 : Nat) : Int), V.nili) else (0, 0, werr 3) := by
          unfold undV
          rw [hlen, if_neg (by omega)]
        have hg5 := good_five hlt
        simp only [sa0.down, sa1.down, sa2.down, sa3.down, sa4.down, sb0.down, sb1.down, sb2.down, sb3.down, ↓reduceIte, Nat.reduceEqDiff, Nat.reduceLT, Nat.reduceLeDiff, Nat.reduceAdd, Nat.reduceSub, Int.reduceToNat, Nat.reduceDiv, Int.reduceLT, Int.reduceLE, Int.reduceNeg, Int.reduceBEq, Int.reduceBNe, Int.reduceAdd, Int.reduceSub, Nat.reduceBEq, reduceCtorEq, Nat.reduceMul, TEP, pvNilI, tis, ens, nts, Tryd.results26, h0, h10, h11, hd, hD3]
        refine ACalls.ev (ev_Delta _) rfl ?_
        unfold deltaV
        cases hf : fitsB ((vgD (l.take (min (i + 1) 5)) : Nat) : Int) with
        | false =>
          rw [if_neg (fun h => by rw [hf] at hg5; have := hg5.2 h; cases this.1)] at hu
          rw [hu]
          simp only [sa0.down, sa1.down, sa2.down, sa3.down, sa4.down, sb0.down, sb1.down, sb2.down, sb3.down, ↓reduceIte, Nat.reduceEqDiff, Nat.reduceLT, Nat.reduceLeDiff, Nat.reduceAdd, Nat.reduceSub, Int.reduceToNat, Nat.reduceDiv, Int.reduceLT, Int.reduceLE, Int.reduceNeg, Int.reduceBEq, Int.reduceBNe, Int.reduceAdd, Int.reduceSub, Nat.reduceBEq, reduceCtorEq, Nat.reduceMul, TEP, pvNilI, tis, ens, nts, Tryd.results26, h0, h10, h11, hd]
          exact ⟨nofun, nofun, Reif.tup (Reifs.cons (Reif.dat rfl) (Reifs.cons (Reif.dat rfl) (Reifs.cons (reif_werr 3) Reifs.nil)))⟩
        | true =>
          rw [if_pos rfl, Int.toNat_natCast]
          by_cases hgr : grp (vgD (l.take (min (i + 1) 5))) = l.take (i + 1)
          · have hgd := hg5.1 ⟨hf, hgr⟩
            rw [if_pos hgd, ← good_len hlt hgd] at hu
            have hbq : (grp (vgD (l.take (min (i + 1) 5))) == l.take (i + 1)) = true := by simp [hgr]
            rw [hu]
            simp only [sa0.down, sa1.down, sa2.down, sa3.down, sa4.down, sb0.down, sb1.down, sb2.down, sb3.down, ↓reduceIte, Nat.reduceEqDiff, Nat.reduceLT, Nat.reduceLeDiff, Nat.reduceAdd, Nat.reduceSub, Int.reduceToNat, Nat.reduceDiv, Int.reduceLT, Int.reduceLE, Int.reduceNeg, Int.reduceBEq, Int.reduceBNe, Int.reduceAdd, Int.reduceSub, Nat.reduceBEq, reduceCtorEq, Nat.reduceMul, TEP, pvNilI, tis, ens, nts, Tryd.results26, h0, h10, h11, hd, hbq, wrap_succ (show i < maxLen by omega)]
            exact ⟨⟨by omega, by omega⟩, Reif.dat rfl⟩
          · rw [if_neg (fun h => hgr (hg5.2 h).2)] at hu
            have hbq : (grp (vgD (l.take (min (i + 1) 5))) == l.take (i + 1)) = false := by simp [hgr]
            rw [hu]
            simp only [sa0.down, sa1.down, sa2.down, sa3.down, sa4.down, sb0.down, sb1.down, sb2.down, sb3.down, ↓reduceIte, Nat.reduceEqDiff, Nat.reduceLT, Nat.reduceLeDiff, Nat.reduceAdd, Nat.reduceSub, Int.reduceToNat, Nat.reduceDiv, Int.reduceLT, Int.reduceLE, Int.reduceNeg, Int.reduceBEq, Int.reduceBNe, Int.reduceAdd, Int.reduceSub, Nat.reduceBEq, reduceCtorEq, Nat.reduceMul, TEP, pvNilI, tis, ens, nts, Tryd.results26, h0, h10, h11, hd, hbq, wrap_succ (show i < maxLen by omega)]
            exact ⟨⟨by omega, by omega⟩, nofun, nofun, Reif.tup (Reifs.cons (Reif.dat rfl) (Reifs.cons (Reif.dat rfl) (Reifs.cons (reif_werr 3) Reifs.nil)))⟩
    · have hi5 : ¬ i < 5 := by have := of_decide_eq_false h5'; omega
      have hmin2 : min i 5 = min (i + 1) 5 := by omega
      rw [hmin2] at h5
      simp only [sa0.down, sa1.down, sa2.down, sa3.down, sa4.down, sb0.down, sb1.down, sb2.down, sb3.down, ↓reduceIte, Nat.reduceEqDiff, Nat.reduceLT, Nat.reduceLeDiff, Nat.reduceAdd, Nat.reduceSub, Int.reduceToNat, Nat.reduceDiv, Int.reduceLT, Int.reduceLE, Int.reduceNeg, Int.reduceBEq, Int.reduceBNe, Int.reduceAdd, Int.reduceSub, Nat.reduceBEq, reduceCtorEq, Nat.reduceMul, TEP, pvNilI, tis, ens, nts, Tryd.results26, h0, h5, h10, h11, hd]
      refine ⟨⟨by omega, by omega⟩, ?_⟩
      cases hD : decide (128 ≤ (l.getD i 0).toNat) with
      | true =>
        have hall2 : (l.take (i + 1)).all (fun c => decide (128 ≤ c.toNat)) = true := by
          have hD2 : decide (128 ≤ (l[i]).toNat) = true := by rw [← getD_at (d := 0) hlt]; exact hD
          rw [List.take_add_one, List.all_append, hall, List.getElem?_eq_getElem hlt, Option.toList_some, List.all_cons, hD2]
          rfl
        have hD3 : decide ((128 : Int) ≤ ((l.getD i 0).toNat : Int)) = true := by have := of_decide_eq_true hD; rw [decide_eq_true_eq]; omega
        simp only [sa0.down, sa1.down, sa2.down, sa3.down, sa4.down, sb0.down, sb1.down, sb2.down, sb3.down, ↓reduceIte, Nat.reduceEqDiff, Nat.reduceLT, Nat.reduceLeDiff, Nat.reduceAdd, Nat.reduceSub, Int.reduceToNat, Nat.reduceDiv, Int.reduceLT, Int.reduceLE, Int.reduceNeg, Int.reduceBEq, Int.reduceBNe, Int.reduceAdd, Int.reduceSub, Nat.reduceBEq, reduceCtorEq, Nat.reduceMul, TEP, pvNilI, tis, ens, nts, Tryd.results26, h0, h5, h10, h11, hd, hD3, wrap_succ (show i < maxLen by omega)]
        exact .inl ⟨m - 1, by omega, i + 1, by omega, h0, h5, h10, rfl, hd, rfl, hall2⟩
      | false =>
        have hD3 : decide ((128 : Int) ≤ ((l.getD i 0).toNat : Int)) = false := by have := of_decide_eq_false hD; rw [decide_eq_false_iff_not]; omega
        have hlen := twP (p := fun c => decide (128 ≤ c.toNat)) (l := l) (i := i) (by omega) hall (fun _ => hD)
        have hu : undV l = if goodG (l.take (i + 1)) then (((vgD (l.take (i + 1)) : Nat) : Int), ((i + 1 : Nat) : Int), V.nili) else (0, 0, werr 3) := by
          unfold undV
          rw [hlen, if_neg (by omega)]
        have hg5 := good_five hlt
        simp only [sa0.down, sa1.down, sa2.down, sa3.down, sa4.down, sb0.down, sb1.down, sb2.down, sb3.down, ↓reduceIte, Nat.reduceEqDiff, Nat.reduceLT, Nat.reduceLeDiff, Nat.reduceAdd, Nat.reduceSub, Int.reduceToNat, Nat.reduceDiv, Int.reduceLT, Int.reduceLE, Int.reduceNeg, Int.reduceBEq, Int.reduceBNe, Int.reduceAdd, Int.reduceSub, Nat.reduceBEq, reduceCtorEq, Nat.reduceMul, TEP, pvNilI, tis, ens, nts, Tryd.results26, h0, h5, h10, h11, hd, hD3]
        refine ACalls.ev (ev_Delta _) rfl ?_
        unfold deltaV
        cases hf : fitsB ((vgD (l.take (min (i + 1) 5)) : Nat) : Int) with
        | false =>
          rw [if_neg (fun h => by rw [hf] at hg5; have := hg5.2 h; cases this.1)] at hu
          rw [hu]
          simp only [sa0.down, sa1.down, sa2.down, sa3.down, sa4.down, sb0.down, sb1.down, sb2.down, sb3.down, ↓reduceIte, Nat.reduceEqDiff, Nat.reduceLT, Nat.reduceLeDiff, Nat.reduceAdd, Nat.reduceSub, Int.reduceToNat, Nat.reduceDiv, Int.reduceLT, Int.reduceLE, Int.reduceNeg, Int.reduceBEq, Int.reduceBNe, Int.reduceAdd, Int.reduceSub, Nat.reduceBEq, reduceCtorEq, Nat.reduceMul, TEP, pvNilI, tis, ens, nts, Tryd.results26, h0, h5, h10, h11, hd]
          exact ⟨nofun, nofun, Reif.tup (Reifs.cons (Reif.dat rfl) (Reifs.cons (Reif.dat rfl) (Reifs.cons (reif_werr 3) Reifs.nil)))⟩
        | true =>
          rw [if_pos rfl, Int.toNat_natCast]
          by_cases hgr : grp (vgD (l.take (min (i + 1) 5))) = l.take (i + 1)
          · have hgd := hg5.1 ⟨hf, hgr⟩
            rw [if_pos hgd, ← good_len hlt hgd] at hu
            have hbq : (grp (vgD (l.take (min (i + 1) 5))) == l.take (i + 1)) = true := by simp [hgr]
            rw [hu]
            simp only [sa0.down, sa1.down, sa2.down, sa3.down, sa4.down, sb0.down, sb1.down, sb2.down, sb3.down, ↓reduceIte, Nat.reduceEqDiff, Nat.reduceLT, Nat.reduceLeDiff, Nat.reduceAdd, Nat.reduceSub, Int.reduceToNat, Nat.reduceDiv, Int.reduceLT, Int.reduceLE, Int.reduceNeg, Int.reduceBEq, Int.reduceBNe, Int.reduceAdd, Int.reduceSub, Nat.reduceBEq, reduceCtorEq, Nat.reduceMul, TEP, pvNilI, tis, ens, nts, Tryd.results26, h0, h5, h10, h11, hd, hbq, wrap_succ (show i < maxLen by omega)]
            exact ⟨⟨by omega, by omega⟩, Reif.dat rfl⟩
          · rw [if_neg (fun h => hgr (hg5.2 h).2)] at hu
            have hbq : (grp (vgD (l.take (min (i + 1) 5))) == l.take (i + 1)) = false := by simp [hgr]
            rw [hu]
            simp only [sa0.down, sa1.down, sa2.down, sa3.down, sa4.down, sb0.down, sb1.down, sb2.down, sb3.down, ↓reduceIte, Nat.reduceEqDiff, Nat.reduceLT, Nat.reduceLeDiff, Nat.reduceAdd, Nat.reduceSub, Int.reduceToNat, Nat.reduceDiv, Int.reduceLT, Int.reduceLE, Int.reduceNeg, Int.reduceBEq, Int.reduceBNe, Int.reduceAdd, Int.reduceSub, Nat.reduceBEq, reduceCtorEq, Nat.reduceMul, TEP, pvNilI, tis, ens, nts, Tryd.results26, h0, h5, h10, h11, hd, hbq, wrap_succ (show i < maxLen by omega)]
            exact ⟨⟨by omega, by omega⟩, nofun, nofun, Reif.tup (Reifs.cons (Reif.dat rfl) (Reifs.cons (Reif.dat rfl) (Reifs.cons (reif_werr 3) Reifs.nil)))⟩
  · simp only [decide_eq_false_iff_not, Int.ofNat_lt] at hlt
    have hlen := twP (p := fun c => decide (128 ≤ c.toNat)) (l := l) (i := i) (by omega) hall (fun h => absurd h hlt)
    have hu : undV l = (0, 0, werr 10) := by
      unfold undV
      rw [if_pos (by rw [hlen]; omega)]
    rw [hu]
    simp only [sa0.down, sa1.down, sa2.down, sa3.down, sa4.down, sb0.down, sb1.down, sb2.down, sb3.down, ↓reduceIte, Nat.reduceEqDiff, Nat.reduceLT, Nat.reduceLeDiff, Nat.reduceAdd, Nat.reduceSub, Int.reduceToNat, Nat.reduceDiv, Int.reduceLT, Int.reduceLE, Int.reduceNeg, Int.reduceBEq, Int.reduceBNe, Int.reduceAdd, Int.reduceSub, Nat.reduceBEq, reduceCtorEq, Nat.reduceMul, TEP, pvNilI, tis, ens, nts, Tryd.results26, h0, h5, h10, h11, hd]
    exact ⟨nofun, nofun, Reif.tup (Reifs.cons (Reif.dat rfl) (Reifs.cons (Reif.dat rfl) (Reifs.cons (reif_werr 10) Reifs.nil)))⟩

/-- What Undelta tells. -/
def undR (s : By) (a : Int) : Int × Int × Int :=
  if a < 0 ∨ (s.length : Int) < a then (0, a, 10)
  else if ((s.drop a.toNat).takeWhile fun c => decide (128 ≤ c.toNat)).length = (s.drop a.toNat).length then (0, a, 10)
  else if goodG ((s.drop a.toNat).take (((s.drop a.toNat).takeWhile fun c => decide (128 ≤ c.toNat)).length + 1)) then
    ((vgD ((s.drop a.toNat).take (((s.drop a.toNat).takeWhile fun c => decide (128 ≤ c.toNat)).length + 1)) : Nat), a + (((s.drop a.toNat).takeWhile fun c => decide (128 ≤ c.toNat)).length + 1 : Nat), 0)
  else (0, a, 3)

theorem ev_Undelta (s : By) (a : Int) (hl : s.length ≤ 100000) : Ev TE 18 [.str s, vi a] (.tup [vi (undR s a).1, vi (undR s a).2.1, vi (undR s a).2.2]) := by
  have hM : maxLen = 9223372036854775807 := rfl
  refine Ev.of_awp Tryd.func18 rfl (by simp [nts]) (vc_ok mixed _ _ _ _ ?_)
  simp only [sa0.down, sa1.down, sa2.down, sa3.down, sa4.down, sb0.down, sb1.down, sb2.down, sb3.down, ↓reduceIte, Nat.reduceEqDiff, Nat.reduceLT, Nat.reduceLeDiff, Nat.reduceAdd, Nat.reduceSub, Int.reduceToNat, Nat.reduceDiv, Int.reduceLT, Int.reduceLE, Int.reduceNeg, Int.reduceBEq, Int.reduceBNe, Int.reduceAdd, Int.reduceSub, Nat.reduceBEq, reduceCtorEq, Nat.reduceMul, TEP, pvNilI, tis, ens, nts, Tryd.results18]
  refine vcB.mk (fun hc => ?_) (fun hc => ?_)
  · have h0 : undR s a = (0, a, 10) := by
      unfold undR
      rw [if_pos (by simpa using hc)]
    rw [h0]
    simp only [sa0.down, sa1.down, sa2.down, sa3.down, sa4.down, sb0.down, sb1.down, sb2.down, sb3.down, ↓reduceIte, Nat.reduceEqDiff, Nat.reduceLT, Nat.reduceLeDiff, Nat.reduceAdd, Nat.reduceSub, Int.reduceToNat, Nat.reduceDiv, Int.reduceLT, Int.reduceLE, Int.reduceNeg, Int.reduceBEq, Int.reduceBNe, Int.reduceAdd, Int.reduceSub, Nat.reduceBEq, reduceCtorEq, Nat.reduceMul, TEP, pvNilI, tis, ens, nts, Tryd.results18]
    exact Reif.dat rfl
  · simp only [Bool.or_eq_false_iff, decide_eq_false_iff_not] at hc
    obtain ⟨p, rfl⟩ : ∃ p : Nat, a = p := ⟨a.toNat, by omega⟩
    have hp : p ≤ s.length := by omega
    have hlen : (s.drop p).length ≤ 100000 := by rw [List.length_drop]; omega
    unfold undR
    rw [if_neg (by omega), Int.toNat_natCast]
    have hdl : (s.drop p).length = s.length - p := List.length_drop
    have htl := (List.takeWhile_prefix (l := s.drop p) fun c => decide (128 ≤ c.toNat)).length_le
    have htk : List.take (s.length - p) (List.drop p s) = s.drop p := List.take_of_length_le (by omega)
    have hu := ev_undelta (s.drop p) hlen
    unfold undV at hu
    generalize hl' : s.drop p = l at hu hdl htl htk hlen ⊢
    generalize (l.takeWhile fun c => decide (128 ≤ c.toNat)).length = k at hu htl ⊢
    have hadd : IntKind.i64.wrap ((p : Int) + ((k + 1 : Nat) : Int)) = (p : Int) + ((k + 1 : Nat) : Int) := wrapn (by omega) (by omega)
    have hadd0 : IntKind.i64.wrap ((p : Int) + 0) = (p : Int) := by rw [wrapn (by omega) (by omega)]; omega
    simp only [sa0.down, sa1.down, sa2.down, sa3.down, sa4.down, sb0.down, sb1.down, sb2.down, sb3.down, ↓reduceIte, Nat.reduceEqDiff, Nat.reduceLT, Nat.reduceLeDiff, Nat.reduceAdd, Nat.reduceSub, Int.reduceToNat, Nat.reduceDiv, Int.reduceLT, Int.reduceLE, Int.reduceNeg, Int.reduceBEq, Int.reduceBNe, Int.reduceAdd, Int.reduceSub, Nat.reduceBEq, reduceCtorEq, Nat.reduceMul, TEP, pvNilI, tis, ens, nts, Tryd.results18, hl', htk]
    by_cases h1 : k = l.length
    · rw [if_pos h1] at hu ⊢
      refine ⟨⟨by omega, by omega⟩, ACalls.ev hu rfl ?_⟩
      simp only [sa0.down, sa1.down, sa2.down, sa3.down, sa4.down, sb0.down, sb1.down, sb2.down, sb3.down, ↓reduceIte, Nat.reduceEqDiff, Nat.reduceLT, Nat.reduceLeDiff, Nat.reduceAdd, Nat.reduceSub, Int.reduceToNat, Nat.reduceDiv, Int.reduceLT, Int.reduceLE, Int.reduceNeg, Int.reduceBEq, Int.reduceBNe, Int.reduceAdd, Int.reduceSub, Nat.reduceBEq, reduceCtorEq, Nat.reduceMul, TEP, pvNilI, tis, ens, nts, Tryd.results18, hadd0]
      refine ⟨trivial, ACalls.ev (ev_told_err _ _ _ 10) rfl ?_⟩
      simp only [sa0.down, sa1.down, sa2.down, sa3.down, sa4.down, sb0.down, sb1.down, sb2.down, sb3.down, ↓reduceIte, Nat.reduceEqDiff, Nat.reduceLT, Nat.reduceLeDiff, Nat.reduceAdd, Nat.reduceSub, Int.reduceToNat, Nat.reduceDiv, Int.reduceLT, Int.reduceLE, Int.reduceNeg, Int.reduceBEq, Int.reduceBNe, Int.reduceAdd, Int.reduceSub, Nat.reduceBEq, reduceCtorEq, Nat.reduceMul, TEP, pvNilI, tis, ens, nts, Tryd.results18]
      exact Reif.dat rfl
    · rw [if_neg h1] at hu ⊢
      by_cases h2 : goodG (l.take (k + 1))
      · rw [if_pos h2] at hu ⊢
        refine ⟨⟨by omega, by omega⟩, ACalls.ev hu rfl ?_⟩
        simp only [sa0.down, sa1.down, sa2.down, sa3.down, sa4.down, sb0.down, sb1.down, sb2.down, sb3.down, ↓reduceIte, Nat.reduceEqDiff, Nat.reduceLT, Nat.reduceLeDiff, Nat.reduceAdd, Nat.reduceSub, Int.reduceToNat, Nat.reduceDiv, Int.reduceLT, Int.reduceLE, Int.reduceNeg, Int.reduceBEq, Int.reduceBNe, Int.reduceAdd, Int.reduceSub, Nat.reduceBEq, reduceCtorEq, Nat.reduceMul, TEP, pvNilI, tis, ens, nts, Tryd.results18, hadd]
        refine ACalls.ev (ev_told_ok _ _ _) rfl ?_
        simp only [sa0.down, sa1.down, sa2.down, sa3.down, sa4.down, sb0.down, sb1.down, sb2.down, sb3.down, ↓reduceIte, Nat.reduceEqDiff, Nat.reduceLT, Nat.reduceLeDiff, Nat.reduceAdd, Nat.reduceSub, Int.reduceToNat, Nat.reduceDiv, Int.reduceLT, Int.reduceLE, Int.reduceNeg, Int.reduceBEq, Int.reduceBNe, Int.reduceAdd, Int.reduceSub, Nat.reduceBEq, reduceCtorEq, Nat.reduceMul, TEP, pvNilI, tis, ens, nts, Tryd.results18]
        exact Reif.dat rfl
      · rw [if_neg h2] at hu ⊢
        refine ⟨⟨by omega, by omega⟩, ACalls.ev hu rfl ?_⟩
        simp only [sa0.down, sa1.down, sa2.down, sa3.down, sa4.down, sb0.down, sb1.down, sb2.down, sb3.down, ↓reduceIte, Nat.reduceEqDiff, Nat.reduceLT, Nat.reduceLeDiff, Nat.reduceAdd, Nat.reduceSub, Int.reduceToNat, Nat.reduceDiv, Int.reduceLT, Int.reduceLE, Int.reduceNeg, Int.reduceBEq, Int.reduceBNe, Int.reduceAdd, Int.reduceSub, Nat.reduceBEq, reduceCtorEq, Nat.reduceMul, TEP, pvNilI, tis, ens, nts, Tryd.results18, hadd0]
        refine ⟨trivial, ACalls.ev (ev_told_err _ _ _ 3) rfl ?_⟩
        simp only [sa0.down, sa1.down, sa2.down, sa3.down, sa4.down, sb0.down, sb1.down, sb2.down, sb3.down, ↓reduceIte, Nat.reduceEqDiff, Nat.reduceLT, Nat.reduceLeDiff, Nat.reduceAdd, Nat.reduceSub, Int.reduceToNat, Nat.reduceDiv, Int.reduceLT, Int.reduceLE, Int.reduceNeg, Int.reduceBEq, Int.reduceBNe, Int.reduceAdd, Int.reduceSub, Nat.reduceBEq, reduceCtorEq, Nat.reduceMul, TEP, pvNilI, tis, ens, nts, Tryd.results18]
        exact Reif.dat rfl

end Go.Proofs.YtbikgbnhngmohaaDoor
