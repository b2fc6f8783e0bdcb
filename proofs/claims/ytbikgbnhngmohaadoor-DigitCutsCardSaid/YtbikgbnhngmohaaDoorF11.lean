/- Functions of the program, part 11. -/
import Derived.Test.YtbikgbnhngmohaaDoorF10
set_option linter.unusedVariables false
set_option linter.unusedSimpArgs false
set_option linter.unnecessarySimpa false
namespace Go.Proofs.YtbikgbnhngmohaaDoor
open Go Go.Proofs Go.Abs Go.RowKit

/-! ### What is put is got again -/
theorem grp_split (n : Nat) : ∃ x c, grp n = x ++ [c] ∧ (∀ b ∈ x, 128 ≤ b.toNat) ∧ c.toNat < 128 := by
  induction n using Nat.strongRecOn with
  | _ n ih =>
    by_cases h : n < 128
    · refine ⟨[], UInt8.ofNat n, by rw [grp_small h]; rfl, by simp, ?_⟩
      rw [UInt8.toNat_ofNat']; omega
    · obtain ⟨x, c, h1, h2, h3⟩ := ih (n / 128) (by omega)
      refine ⟨UInt8.ofNat (n % 128 + 128) :: x, c, by rw [grp_big h, h1]; rfl, ?_, h3⟩
      intro b hb
      rcases List.mem_cons.1 hb with rfl | hb
      · rw [UInt8.toNat_ofNat']; omega
      · exact h2 b hb
theorem vgD_grp (n : Nat) : vgD (grp n) = n := by
  induction n using Nat.strongRecOn with
  | _ n ih =>
    by_cases h : n < 128
    · rw [grp_small h]
      show (UInt8.ofNat n).toNat % 128 + 128 * 0 = n
      rw [UInt8.toNat_ofNat']; omega
    · rw [grp_big h]
      show (UInt8.ofNat (n % 128 + 128)).toNat % 128 + 128 * vgD (grp (n / 128)) = n
      rw [ih _ (by omega), UInt8.toNat_ofNat']; omega
theorem grp_pos (n : Nat) : 0 < (grp n).length := by
  obtain ⟨x, c, h, _⟩ := grp_split n
  rw [h]; simp
theorem grp_good {n : Nat} (h : n ≤ 2147483647) : goodG (grp n) := ⟨by rw [vgD_grp]; exact h, by rw [vgD_grp]⟩
theorem tw_grp (n : Nat) (t : By) : ((grp n ++ t).takeWhile fun c => decide (128 ≤ c.toNat)).length + 1 = (grp n).length := by
  obtain ⟨x, c, h, h1, h2⟩ := grp_split n
  rw [h, List.append_assoc, List.takeWhile_append_of_pos (fun b hb => by simpa using h1 b hb), List.singleton_append, List.takeWhile_cons]
  rw [if_neg (by simpa using h2)]
  simp
theorem und_back {n : Nat} (h : n ≤ 2147483647) (x t : By) : undR (x ++ grp n ++ t) (x.length : Nat) = (((n : Nat) : Int), ((x.length + (grp n).length : Nat) : Int), 0) := by
  have hd : (x ++ grp n ++ t).drop x.length = grp n ++ t := by rw [List.append_assoc, List.drop_left]
  have htw := tw_grp n t
  have htk : (grp n ++ t).take (grp n).length = grp n := List.take_left
  have hp := grp_pos n
  unfold undR
  rw [if_neg (by simp; omega), Int.toNat_natCast, hd, if_neg (by simp; omega), htw, htk, if_pos (grp_good h), vgD_grp]
  simp
theorem good_dec {n : Nat} (h : n ≤ 2147483647) : good (Lib.decDigits n) := ⟨by rw [dec_val]; exact h, by rw [dec_val]⟩
theorem tw_dec {n : Nat} {t : By} (ht : ∀ c r, t = c :: r → isDig c = false) : (Lib.decDigits n ++ t).takeWhile isDig = Lib.decDigits n := by
  rw [List.takeWhile_append_of_pos (dec_dig n)]
  cases t with
  | nil => simp
  | cons c r => rw [List.takeWhile_cons, ht c r rfl]; simp
theorem get_back {n : Nat} (h : n ≤ 2147483647) (x t : By) (ht : ∀ c r, t = c :: r → isDig c = false) :
    getR (x ++ Lib.decDigits n ++ t) (x.length : Nat) = (((n : Nat) : Int), ((x.length + (Lib.decDigits n).length : Nat) : Int), 0) := by
  have hd : (x ++ Lib.decDigits n ++ t).drop x.length = Lib.decDigits n ++ t := by rw [List.append_assoc, List.drop_left]
  unfold getR
  rw [if_neg (by simp; omega), Int.toNat_natCast, hd, tw_dec ht, if_pos ⟨dec_ne n, good_dec h⟩, dec_val]
  simp

/-! ### What is got is put just so -/
theorem get_only (s : By) (a : Int) : getR s a = (0, a, 3) ∨ ∃ (p : Nat) (ds : By), a = p ∧ p + ds.length ≤ s.length ∧ (s.drop p).take ds.length = ds ∧ good ds ∧ getR s a = (((valA 0 ds : Nat) : Int), ((p + ds.length : Nat) : Int), 0) := by
  unfold getR
  by_cases h1 : a < 0 ∨ (s.length : Int) < a
  · rw [if_pos h1]; exact .inl rfl
  · rw [if_neg h1]
    obtain ⟨p, rfl⟩ : ∃ p : Nat, a = p := ⟨a.toNat, by omega⟩
    rw [Int.toNat_natCast]
    by_cases h2 : (s.drop p).takeWhile isDig ≠ [] ∧ good ((s.drop p).takeWhile isDig)
    · rw [if_pos h2]
      refine .inr ⟨p, (s.drop p).takeWhile isDig, rfl, ?_, (List.prefix_iff_eq_take.1 (List.takeWhile_prefix isDig)).symm, h2.2, by simp⟩
      have := (List.takeWhile_prefix (l := s.drop p) isDig).length_le
      rw [List.length_drop] at this
      omega
    · rw [if_neg h2]; exact .inl rfl
theorem und_only (s : By) (a : Int) : (∃ e : Int, e ≠ 0 ∧ undR s a = (0, a, e)) ∨ ∃ (p : Nat) (ds : By), a = p ∧ p + ds.length ≤ s.length ∧ (s.drop p).take ds.length = ds ∧ goodG ds ∧ undR s a = (((vgD ds : Nat) : Int), ((p + ds.length : Nat) : Int), 0) := by
  unfold undR
  by_cases h1 : a < 0 ∨ (s.length : Int) < a
  · rw [if_pos h1]; exact .inl ⟨10, by decide, rfl⟩
  · rw [if_neg h1]
    obtain ⟨p, rfl⟩ : ∃ p : Nat, a = p := ⟨a.toNat, by omega⟩
    rw [Int.toNat_natCast]
    by_cases h2 : ((s.drop p).takeWhile fun c => decide (128 ≤ c.toNat)).length = (s.drop p).length
    · rw [if_pos h2]; exact .inl ⟨10, by decide, rfl⟩
    · rw [if_neg h2]
      have hle := (List.takeWhile_prefix (l := s.drop p) fun c => decide (128 ≤ c.toNat)).length_le
      generalize ((s.drop p).takeWhile fun c => decide (128 ≤ c.toNat)).length = k at h2 hle
      have hl : ((s.drop p).take (k + 1)).length = k + 1 := by rw [List.length_take]; omega
      by_cases h3 : goodG ((s.drop p).take (k + 1))
      · rw [if_pos h3]
        refine .inr ⟨p, (s.drop p).take (k + 1), rfl, ?_, by rw [hl], h3, by rw [hl]; simp⟩
        rw [hl]; rw [List.length_drop] at hle h2; omega
      · rw [if_neg h3]; exact .inl ⟨3, by decide, rfl⟩

/-! ### In order -/
theorem nDigits_mono : ∀ (b a : Nat), a ≤ b → Lib.nDigits a ≤ Lib.nDigits b := by
  intro b
  induction b using Nat.strongRecOn with
  | _ b ih =>
    intro a h
    by_cases h1 : a < 10
    · rw [Lib.nDigits_small h1]; exact Lib.nDigits_pos b
    · rw [Lib.nDigits_big h1, Lib.nDigits_big (show ¬ b < 10 by omega)]
      have := ih (b / 10) (by omega) (a / 10) (by omega)
      omega
theorem dec_mono {a b : Nat} (h : a ≤ b) : (Lib.decDigits a).length ≤ (Lib.decDigits b).length := by
  rw [Lib.decDigits_length, Lib.decDigits_length]; exact nDigits_mono b a h
theorem grp_mono : ∀ (b a : Nat), a ≤ b → (grp a).length ≤ (grp b).length := by
  intro b
  induction b using Nat.strongRecOn with
  | _ b ih =>
    intro a h
    by_cases h1 : a < 128
    · rw [grp_small h1]; exact grp_pos b
    · rw [grp_big h1, grp_big (show ¬ b < 128 by omega), List.length_cons, List.length_cons]
      have := ih (b / 128) (by omega) (a / 128) (by omega)
      omega
theorem valA_rng : ∀ (ds : By) (a : Nat), (∀ c ∈ ds, isDig c = true) → a * 10 ^ ds.length ≤ valA a ds ∧ valA a ds < (a + 1) * 10 ^ ds.length
  | [], a, _ => by show a * 1 ≤ a ∧ a < (a + 1) * 1; omega
  | c :: ds, a, h => by
    have hc := dig_rng (h c (by simp))
    obtain ⟨h1, h2⟩ := valA_rng ds (10 * a + (c.toNat - 48)) fun c hc => h c (by simp [hc])
    show a * 10 ^ (ds.length + 1) ≤ valA (10 * a + (c.toNat - 48)) ds ∧ valA (10 * a + (c.toNat - 48)) ds < (a + 1) * 10 ^ (ds.length + 1)
    rw [Nat.pow_succ]
    have e1 : a * (10 ^ ds.length * 10) = (10 * a) * 10 ^ ds.length := by rw [Nat.mul_comm (10 ^ ds.length) 10, ← Nat.mul_assoc, Nat.mul_comm a 10]
    have e2 : (a + 1) * (10 ^ ds.length * 10) = (10 * a + 10) * 10 ^ ds.length := by rw [Nat.mul_comm (10 ^ ds.length) 10, ← Nat.mul_assoc]; congr 1; omega
    rw [e1, e2]
    refine ⟨Nat.le_trans (Nat.mul_le_mul_right _ (by omega)) h1, Nat.lt_of_lt_of_le h2 (Nat.mul_le_mul_right _ (by omega))⟩
theorem less_of : ∀ (x y : By) (a b : Nat), x.length = y.length → (∀ c ∈ x, isDig c = true) → (∀ c ∈ y, isDig c = true) → a ≤ b → valA a x ≤ valA b y → a = b → (Op.bytesLess x y || x == y) = true
  | [], [], a, b, _, _, _, _, _, _ => by simp
  | [], _ :: _, _, _, h, _, _, _, _, _ => by simp at h
  | _ :: _, [], _, _, h, _, _, _, _, _ => by simp at h
  | c :: x, d :: y, a, b, hl, hx, hy, hab, hv, he => by
    subst he
    have hc := dig_rng (hx c (by simp))
    have hd := dig_rng (hy d (by simp))
    have hl2 : x.length = y.length := by simpa using hl
    have hv : valA (10 * a + (c.toNat - 48)) x ≤ valA (10 * a + (d.toNat - 48)) y := hv
    have hx' : ∀ c ∈ x, isDig c = true := fun c hc => hx c (by simp [hc])
    have hy' : ∀ c ∈ y, isDig c = true := fun c hc => hy c (by simp [hc])
    have h1 := (valA_rng x (10 * a + (c.toNat - 48)) hx').1
    have h2 := (valA_rng y (10 * a + (d.toNat - 48)) hy').2
    rw [hl2] at h1
    have hcd : c.toNat ≤ d.toNat := by
      refine Classical.byContradiction fun hn => ?_
      have : (10 * a + (d.toNat - 48) + 1) * 10 ^ y.length ≤ (10 * a + (c.toNat - 48)) * 10 ^ y.length := Nat.mul_le_mul_right _ (by omega)
      omega
    by_cases hcd2 : c = d
    · subst hcd2
      have := less_of x y _ _ hl2 hx' hy' (Nat.le_refl _) hv rfl
      simp only [Op.bytesLess, Bool.or_eq_true, beq_iff_eq, Bool.and_eq_true, decide_eq_true_eq, List.cons.injEq, true_and] at this ⊢
      rcases this with h | h
      · exact .inl (.inr h)
      · exact .inr h
    · have : c < d := by
        rw [UInt8.lt_iff_toNat_lt]
        have : c.toNat ≠ d.toNat := fun h => hcd2 (UInt8.toNat_inj.1 h)
        omega
      simp [Op.bytesLess, this]

end Go.Proofs.YtbikgbnhngmohaaDoor
