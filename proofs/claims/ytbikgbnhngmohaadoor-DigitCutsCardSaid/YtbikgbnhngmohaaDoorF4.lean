/- Functions of the program, part 4. -/
import Derived.Test.YtbikgbnhngmohaaDoorF3
import Derived.Lib.AtoiAll
set_option linter.unusedVariables false
set_option linter.unusedSimpArgs false
set_option linter.unnecessarySimpa false
namespace Go.Proofs.YtbikgbnhngmohaaDoor
open Go Go.Proofs Go.Abs Go.RowKit

abbrev By := List UInt8

/-! ### Digits, and what they spell -/
def valA (a : Nat) (ds : By) : Nat := ds.foldl (fun a c => 10 * a + (c.toNat - 48)) a
theorem valA_app (a : Nat) (x y : By) : valA a (x ++ y) = valA (valA a x) y := by unfold valA; rw [List.foldl_append]
theorem valA_ge (ds : By) : ∀ a, a ≤ valA a ds := by
  induction ds with
  | nil => intro a; exact Nat.le_refl _
  | cons c ds ih =>
    intro a
    have := ih (10 * a + (c.toNat - 48))
    show a ≤ valA (10 * a + (c.toNat - 48)) ds
    omega
theorem dig_rng {c : UInt8} (h : isDig c = true) : 48 ≤ c.toNat ∧ c.toNat ≤ 57 := by
  simpa [isDig] using h

theorem parse_digits (ds : By) : ∀ (a : Nat), (∀ c ∈ ds, isDig c = true) → a < 18446744073709551616 → Lib.parseUint10 a ds = if valA a ds < 18446744073709551616 then .ok (valA a ds) else .range := by
  induction ds with
  | nil =>
    intro a _ h
    show Lib.NumEnd.ok a = if a < _ then _ else _
    rw [if_pos h]
    rfl
  | cons c ds ih =>
    intro a hd h
    obtain ⟨h1, h2⟩ := dig_rng (hd c List.mem_cons_self)
    have hv : valA a (c :: ds) = valA (10 * a + (c.toNat - 48)) ds := rfl
    have hge := valA_ge ds (10 * a + (c.toNat - 48))
    unfold Lib.parseUint10
    rw [if_pos ⟨h1, h2⟩]
    split
    · rw [if_neg (by omega)]
    · split
      · rw [if_neg (by omega)]
      · rw [ih _ (fun c hc => hd c (List.mem_cons_of_mem _ hc)) (by omega), hv, Nat.mul_comm a 10]

theorem atoi_digits {ds : By} (hd : ∀ c ∈ ds, isDig c = true) (hne : ds ≠ []) : Lib.atoiAll ds = if (valA 0) ds < 9223372036854775808 then .ok ((valA 0) ds : Int) else .range := by
  cases ds with
  | nil => exact absurd rfl hne
  | cons c r =>
    obtain ⟨h1, h2⟩ := dig_rng (hd c List.mem_cons_self)
    unfold Lib.atoiAll
    have e1 : ¬ (c.toNat = 43 ∨ c.toNat = 45) := by omega
    have e2 : ¬ c.toNat = 45 := by omega
    simp only [if_neg e1]
    unfold Lib.parseMag
    rw [if_neg hne, parse_digits _ 0 hd (by omega)]
    by_cases h3 : valA 0 (c :: r) < 18446744073709551616
    · rw [if_pos h3]
      simp only [e2, not_false_eq_true, true_and, false_and, if_false]
      by_cases h4 : valA 0 (c :: r) < 9223372036854775808
      · rw [if_neg (by omega), if_pos h4]
      · rw [if_pos (by omega), if_neg h4]
    · rw [if_neg h3, if_neg (by omega)]

theorem nDigits_le : ∀ (k u : Nat), u < 10 ^ (k + 1) → Lib.nDigits u ≤ k + 1
  | 0, u, h => by rw [Lib.nDigits_small (by simpa using h)]; exact Nat.le_refl _
  | k + 1, u, h => by
    by_cases hu : u < 10
    · rw [Lib.nDigits_small hu]; omega
    · rw [Lib.nDigits_big hu]
      have := nDigits_le k (u / 10) (by rw [Nat.pow_succ] at h; omega)
      omega
theorem dec_len {u k : Nat} (h : u < 10 ^ (k + 1)) : (Lib.decDigits u).length ≤ k + 1 := by rw [Lib.decDigits_length]; exact nDigits_le k u h
theorem dec_big {u : Nat} (h : ¬ u < 10) : Lib.decDigits u = Lib.decDigits (u / 10) ++ [UInt8.ofNat (48 + u % 10)] := by rw [Lib.decDigits, dif_neg h]
theorem dec_ne (u : Nat) : Lib.decDigits u ≠ [] := by
  by_cases h : u < 10
  · rw [Lib.decDigits_one h]; simp
  · rw [dec_big h]; simp
theorem ofNat_toNat {d : Nat} (h : d < 10) : (UInt8.ofNat (48 + d)).toNat = 48 + d := by
  rw [UInt8.toNat_ofNat']
  omega
theorem isDig_of {d : Nat} (h : d < 10) : isDig (UInt8.ofNat (48 + d)) = true := by
  unfold isDig
  rw [ofNat_toNat h]
  simp
  omega
theorem dec_dig (u : Nat) : ∀ c ∈ Lib.decDigits u, isDig c = true := by
  induction u using Nat.strongRecOn with
  | _ u ih =>
    by_cases h : u < 10
    · rw [Lib.decDigits_one h]
      intro c hc
      have : c = UInt8.ofNat (48 + u) := by simpa using hc
      rw [this]; exact isDig_of h
    · rw [dec_big h]
      intro c hc
      rcases List.mem_append.1 hc with hc | hc
      · exact ih (u / 10) (by omega) c hc
      · have : c = UInt8.ofNat (48 + u % 10) := by simpa using hc
        rw [this]; exact isDig_of (by omega)
theorem dec_val (u : Nat) : (valA 0) (Lib.decDigits u) = u := by
  induction u using Nat.strongRecOn with
  | _ u ih =>
    by_cases h : u < 10
    · rw [Lib.decDigits_one h]
      show 10 * 0 + ((UInt8.ofNat (48 + u)).toNat - 48) = u
      rw [ofNat_toNat h]; omega
    · rw [dec_big h]
      show valA 0 _ = u
      rw [valA_app, ih (u / 10) (by omega)]
      show 10 * (u / 10) + ((UInt8.ofNat (48 + u % 10)).toNat - 48) = u
      rw [ofNat_toNat (by omega)]; omega
theorem dec_zero : ∀ (u : Nat) (r : By), Lib.decDigits u = 48 :: r → r = [] := by
  intro u
  induction u using Nat.strongRecOn with
  | _ u ih =>
    intro r h
    by_cases hu : u < 10
    · rw [Lib.decDigits_one hu] at h
      simp at h
      exact h.2
    · rw [dec_big hu] at h
      exfalso
      rcases hd : Lib.decDigits (u / 10) with _ | ⟨c, t⟩
      · exact dec_ne _ hd
      · rw [hd, List.cons_append] at h
        have hc : c = 48 := by simpa using (List.cons.inj h).1
        subst hc
        have ht := ih (u / 10) (by omega) t hd
        subst ht
        have h1 := congrArg (valA 0) hd
        rw [dec_val] at h1
        have : (valA 0) [48] = 0 := rfl
        omega

/-- Digits without a needless zero are what their number is spelt as. -/
theorem dec_canon (ds : By) : (∀ c ∈ ds, isDig c = true) → ds ≠ [] → (Lib.decDigits ((valA 0) ds) = ds ↔ ¬ (ds.head? = some 48 ∧ 1 < ds.length)) := by
  have key : ∀ n (ds : By), ds.length = n → (∀ c ∈ ds, isDig c = true) → ds ≠ [] → ¬ (ds.head? = some 48 ∧ 1 < ds.length) → Lib.decDigits ((valA 0) ds) = ds := by
    intro n
    induction n with
    | zero => intro ds hl _ hne; exact absurd (List.length_eq_zero_iff.1 hl) hne
    | succ n ih =>
      intro ds hl hd hne hz
      obtain ⟨x, c, rfl⟩ : ∃ x c, ds = x ++ [c] := ⟨ds.dropLast, ds.getLast hne, (List.dropLast_concat_getLast hne).symm⟩
      obtain ⟨h1, h2⟩ := dig_rng (hd c (by simp))
      have hc : UInt8.ofNat (48 + (c.toNat - 48)) = c := by
        rw [show 48 + (c.toNat - 48) = c.toNat by omega]
        exact UInt8.ofNat_toNat
      have hv : (valA 0) (x ++ [c]) = 10 * (valA 0) x + (c.toNat - 48) := by
        show valA 0 (x ++ [c]) = _
        rw [valA_app]; rfl
      cases x with
      | nil =>
        rw [hv]
        show Lib.decDigits (10 * 0 + (c.toNat - 48)) = [c]
        rw [show 10 * 0 + (c.toNat - 48) = c.toNat - 48 by omega, Lib.decDigits_one (by omega), hc]
      | cons a x =>
        have hz2 : a ≠ 48 := by
          rintro rfl
          exact hz ⟨rfl, by simp⟩
        have ha := dig_rng (hd a (by simp))
        have hih := ih (a :: x) (by simpa using hl) (fun c hc => hd c (List.mem_append_left _ hc)) (by simp) (fun h => hz2 (by simpa using h.1))
        have hpos : 1 ≤ (valA 0) (a :: x) := by
          have h3 : (valA 0) (a :: x) = valA (10 * 0 + (a.toNat - 48)) x := rfl
          have h4 := valA_ge x (10 * 0 + (a.toNat - 48))
          have h5 : a.toNat ≠ 48 := fun h => hz2 (by rw [← UInt8.toNat_inj]; exact h)
          omega
        rw [hv, dec_big (by omega), show (10 * (valA 0) (a :: x) + (c.toNat - 48)) / 10 = (valA 0) (a :: x) by omega, show (10 * (valA 0) (a :: x) + (c.toNat - 48)) % 10 = c.toNat - 48 by omega, hih, hc]
  intro hd hne
  refine ⟨fun h => ?_, key _ ds rfl hd hne⟩
  rintro ⟨h1, h2⟩
  cases ds with
  | nil => simp at h2
  | cons c r =>
    have : c = 48 := by simpa using h1
    subst this
    have := dec_zero _ _ h
    subst this
    simp at h2

/-- Are digits a number? -/
def good (ds : By) : Prop := (valA 0) ds ≤ 2147483647 ∧ Lib.decDigits ((valA 0) ds) = ds
instance (ds : By) : Decidable (good ds) := by unfold good; infer_instance

theorem itoa_nat (n : Nat) : Lib.itoa n = Lib.decDigits n := by
  unfold Lib.itoa
  rw [if_neg (by omega), Int.toNat_natCast]

end Go.Proofs.YtbikgbnhngmohaaDoor
