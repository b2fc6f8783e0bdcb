/- Functions of the program, part 18. -/
import Derived.Test.YtboolnpmlmgpkaaGreatDoorF08
set_option linter.unusedVariables false
set_option maxRecDepth 20000
set_option linter.unusedSimpArgs false
set_option linter.unnecessarySimpa false
namespace Go.Proofs.YtboolnpmlmgpkaaGreatDoor
open Go Go.Proofs Go.Abs

/-! ### What is printed is parsed again -/
theorem sgn_ok {a : Int} (h : 0 ≤ a ∧ a ≤ 2) : isSg (sgn a) = true ∧ sgv (sgn a) = a := by
  have : a = 0 ∨ a = 1 ∨ a = 2 := by omega
  rcases this with rfl | rfl | rfl <;> exact ⟨by decide +kernel, by decide +kernel⟩
theorem sgv_ok {c : UInt8} (h : isSg c = true) : (0 ≤ sgv c ∧ sgv c ≤ 2) ∧ sgn (sgv c) = c := by
  unfold isSg at h
  simp only [Bool.or_eq_true, beq_iff_eq] at h
  rcases h with (rfl | rfl) | rfl <;> exact ⟨⟨by decide +kernel, by decide +kernel⟩, by decide +kernel⟩
theorem tw_app {p : UInt8 → Bool} {l : S} {c : UInt8} {r : S} (h : ∀ x ∈ l, p x = true) (hc : p c = false) : (l ++ c :: r).takeWhile p = l := by
  induction l with
  | nil => simp [hc]
  | cons a l ih => simp only [List.cons_append, List.takeWhile_cons, h a (by simp), if_true]; rw [ih fun x hx => h x (by simp [hx])]
theorem tw_mem {p : UInt8 → Bool} {l : S} {c : UInt8} (h : c ∈ l.takeWhile p) : p c = true := by
  induction l with
  | nil => simp at h
  | cons a l ih =>
    rw [List.takeWhile_cons] at h
    split at h
    · rename_i ha
      rcases List.mem_cons.1 h with rfl | h
      · exact ha
      · exact ih h
    · simp at h
theorem no_odd {l : Cl} (h : ∀ a ∈ l, 0 ≤ a ∧ a ≤ 2) : l.any oddB = false := by
  refine List.any_eq_false.2 fun a ha => ?_
  have := h a ha
  simp [oddB]; omega
/-- A line stands there. -/
theorem line_at {s : S} {a : Nat} {l : Cl} {r : S} (hl : ∀ x ∈ l, 0 ≤ x ∧ x ≤ 2) (h : s.drop a = lineW l ++ r) : lineS s a = l.map sgn ∧ lineV s a = l ∧ isAt s (a + (lineS s a).length) 10 = true ∧ s.drop (a + (lineS s a).length + 1) = r ∧ (lineS s a).length + 1 = (lineW l).length := by
  have h1 : s.drop a = l.map sgn ++ 10 :: r := by rw [h]; simp [lineW]
  have e1 : lineS s a = l.map sgn := by
    unfold lineS
    rw [h1]
    refine tw_app (fun x hx => ?_) (by decide)
    obtain ⟨y, hy, rfl⟩ := List.mem_map.1 hx
    exact (sgn_ok (hl y hy)).1
  have e2 : (l.map sgn).map sgv = l := by
    rw [List.map_map]
    refine (List.map_congr_left (g := id) fun x hx => (sgn_ok (hl x hx)).2).trans (List.map_id _)
  refine ⟨e1, by unfold lineV; rw [e1, e2], ?_, ?_, by rw [e1]; simp [lineW]⟩
  · rw [e1]
    unfold isAt
    have : s[a + (l.map sgn).length]? = (s.drop a)[(l.map sgn).length]? := by rw [List.getElem?_drop]
    rw [this, h1]
    simp
  · rw [e1, Nat.add_assoc, ← List.drop_drop, h1]
    rw [show l.map sgn ++ 10 :: r = (l.map sgn ++ [10]) ++ r by simp]
    rw [show (l.map sgn).length + 1 = (l.map sgn ++ [10]).length by simp, List.drop_left]
theorem steps_at {s : S} : ∀ (ls : List Cl) (k a : Nat) (L : List Cl) (r : S), (∀ l ∈ ls, ∀ x ∈ l, 0 ≤ x ∧ x ≤ 2) → ls.length < k → s.drop a = ls.flatMap lineW ++ 46 :: r → stepsR s k a L = .inl (a + (ls.flatMap lineW).length, L ++ ls)
  | [], k, a, L, r, _, hk, h => by
    obtain ⟨k, rfl⟩ : ∃ j, k = j + 1 := ⟨k - 1, by simp at hk; omega⟩
    have : isAt s a 46 = true := by
      unfold isAt
      have e : s[a]? = (s.drop a)[0]? := by rw [List.getElem?_drop]; rfl
      rw [e, h]
      simp
    unfold stepsR
    rw [if_pos this]
    simp
  | l :: ls, k, a, L, r, hl, hk, h => by
    obtain ⟨k, rfl⟩ : ∃ j, k = j + 1 := ⟨k - 1, by simp at hk; omega⟩
    have h' : s.drop a = lineW l ++ (ls.flatMap lineW ++ 46 :: r) := by rw [h, List.flatMap_cons, List.append_assoc]
    obtain ⟨e1, e2, e3, e4, e5⟩ := line_at (hl l (by simp)) h'
    have hno : isAt s a 46 = false := by
      unfold isAt
      have e : s[a]? = (s.drop a)[0]? := by rw [List.getElem?_drop]; rfl
      rw [e, h']
      cases l with
      | nil => simp [lineW]
      | cons x l =>
        have := (sgn_ok (hl _ List.mem_cons_self x (by simp))).1
        simp only [lineW, List.map_cons, List.cons_append, List.getElem?_cons_zero]
        cases hc : (some (sgn x) == some (46 : UInt8)) with
        | false => rfl
        | true =>
          simp only [beq_iff_eq, Option.some.injEq] at hc
          rw [hc] at this
          exact absurd this (by decide)
    unfold stepsR
    rw [if_neg (by simp [hno]), if_pos e3, steps_at ls k _ _ r (fun l' hl' => hl l' (by simp [hl'])) (by simp at hk; omega) e4, e2]
    simp only [Sum.inl.injEq, Prod.mk.injEq, List.flatMap_cons, List.length_append, List.append_assoc, List.singleton_append, and_true]
    omega

theorem parse_print {w : Wi} (hf : fitsB w.bad = true) (ho : w.odd = false) : parseR (w.txt ++ [46, 10]) = .inr w := by
  obtain ⟨bad, st, steps⟩ := w
  simp only [Wi.odd, Bool.or_eq_false_iff] at ho
  obtain ⟨ho1, ho2⟩ := ho
  have hf2 : 0 ≤ bad ∧ bad ≤ 2147483647 := by simpa [fitsB] using hf
  obtain ⟨n, rfl⟩ : ∃ n : Nat, bad = n := ⟨bad.toNat, by omega⟩
  have h1 := odd_no ho1
  have h2 : ∀ l ∈ steps, ∀ x ∈ l, 0 ≤ x ∧ x ≤ 2 := fun l hl => odd_no (by simpa using List.any_eq_false.1 ho2 l hl)
  obtain ⟨s, hs⟩ : ∃ s, s = Wi.txt ⟨n, st, steps⟩ ++ [46, 10] := ⟨_, rfl⟩
  rw [← hs]
  obtain ⟨ds, hds⟩ : ∃ ds, ds = Lib.decDigits n := ⟨_, rfl⟩
  have hs1 : s = [49, 10, 98] ++ (ds ++ 10 :: (lineW st ++ (steps.flatMap lineW ++ [46, 10]))) := by
    rw [hs, hds]
    unfold Wi.txt
    rw [itoa_nat]
    simp
  have hdg : ∀ c ∈ ds, isDig c = true := by rw [hds]; exact dec_dig n
  have hd3 : s.drop 3 = ds ++ 10 :: (lineW st ++ (steps.flatMap lineW ++ [46, 10])) := by rw [hs1]; rfl
  have htw : (s.drop 3).takeWhile isDig = ds := by rw [hd3]; exact tw_app hdg (by decide)
  have hsl : s.length = 3 + (ds.length + (1 + ((lineW st).length + ((steps.flatMap lineW).length + 2)))) := by
    rw [hs1]; simp; omega
  have hg : getR s 3 = ((n : Int), 3 + (ds.length : Int), 0) := by
    unfold getR
    rw [if_neg (by omega)]
    show (if (s.drop 3).takeWhile isDig ≠ [] ∧ good ((s.drop 3).takeWhile isDig) then _ else _) = _
    rw [htw, if_pos ⟨by rw [hds]; exact dec_ne n, by rw [hds]; unfold good; rw [dec_val]; exact ⟨by omega, rfl⟩⟩]
    show (((valA 0 ((s.drop 3).takeWhile isDig) : Nat) : Int), (3 : Int) + (((s.drop 3).takeWhile isDig).length : Int), (0 : Int)) = _
    rw [htw, hds, dec_val]
  have hm : mt [49, 10, 98] s = 3 := (mt_full [49, 10, 98] s).2 (by rw [hs1]; exact List.prefix_append _ _)
  have hda : s.drop (3 + ds.length) = 10 :: (lineW st ++ (steps.flatMap lineW ++ [46, 10])) := by
    rw [← List.drop_drop, hd3, List.drop_left]
  have hdb : s.drop (3 + ds.length + 1) = lineW st ++ (steps.flatMap lineW ++ [46, 10]) := by
    rw [← List.drop_drop, hda]; rfl
  obtain ⟨e1, e2, e3, e4, e5⟩ := line_at h1 hdb
  unfold parseR
  rw [if_pos hm, hg]
  unfold parse2
  rw [if_pos rfl]
  have htn : ((3 : Int) + (ds.length : Int)).toNat = 3 + ds.length := by omega
  show (if mt [10] (s.drop ((3 : Int) + (ds.length : Int)).toNat) = 1 then parse3 s n (((3 : Int) + (ds.length : Int)).toNat + 1) else _) = _
  rw [htn, if_pos ((mt_nl _).2 (by rw [hda]; rfl))]
  unfold parse3
  have hst := steps_at steps (s.length + 1) _ [] [10] h2 (by
    have : ∀ l : List Cl, l.length ≤ (l.flatMap lineW).length := fun l => by
      induction l with
      | nil => simp
      | cons a l ih => simp only [List.flatMap_cons, List.length_append, List.length_cons, lineW]; omega
    have := this steps
    omega) e4
  rw [if_pos e3, hst, e2]
  unfold parse4
  have hend : s.drop (3 + ds.length + 1 + (lineS s (3 + ds.length + 1)).length + 1 + (steps.flatMap lineW).length) = [46, 10] := by
    rw [← List.drop_drop, e4, List.drop_left]
  dsimp only
  rw [if_pos (show mt [46, 10] _ = 2 from (mt_full [46, 10] _).2 (by rw [hend]; exact List.prefix_refl _)), if_pos (by omega)]
  rfl

/-! ### What is parsed is printed just so -/
theorem line_back {s : S} {a : Nat} (h : isAt s (a + (lineS s a).length) 10 = true) : s.drop a = lineW (lineV s a) ++ s.drop (a + (lineS s a).length + 1) ∧ ∀ x ∈ lineV s a, 0 ≤ x ∧ x ≤ 2 := by
  have hsg : ∀ c ∈ lineS s a, isSg c = true := fun c hc => tw_mem hc
  have e1 : (lineV s a).map sgn = lineS s a := by
    unfold lineV
    rw [List.map_map]
    refine (List.map_congr_left (g := id) fun x hx => (sgv_ok (hsg x hx)).2).trans (List.map_id _)
  refine ⟨?_, fun x hx => ?_⟩
  · have e2 : s.drop a = lineS s a ++ s.drop (a + (lineS s a).length) := by
      have h1 : s.drop (a + (lineS s a).length) = (s.drop a).drop (lineS s a).length := by rw [List.drop_drop]
      have h2 := List.prefix_iff_eq_append.1 (List.takeWhile_prefix (p := isSg) (l := s.drop a))
      rw [h1]
      exact h2.symm
    have hlt := isAt_lt h
    have e3 : s.drop (a + (lineS s a).length) = 10 :: s.drop (a + (lineS s a).length + 1) := by
      rw [List.drop_eq_getElem_cons hlt]
      unfold isAt at h
      rw [List.getElem?_eq_getElem hlt] at h
      simp only [beq_iff_eq, Option.some.injEq] at h
      rw [h]
    unfold lineW
    rw [e1, List.append_assoc]
    show _ = lineS s a ++ 10 :: s.drop (a + (lineS s a).length + 1)
    rw [← e3]
    exact e2
  · unfold lineV at hx
    obtain ⟨c, hc, rfl⟩ := List.mem_map.1 hx
    exact (sgv_ok (hsg c hc)).1
theorem steps_back {s : S} : ∀ (k a : Nat) (L : List Cl) (a' : Nat) (L' : List Cl), stepsR s k a L = .inl (a', L') → ∃ M, L' = L ++ M ∧ s.drop a = M.flatMap lineW ++ s.drop a' ∧ ∀ l ∈ M, ∀ x ∈ l, 0 ≤ x ∧ x ≤ 2
  | 0, a, L, a', L', h => by
    simp only [stepsR, Sum.inl.injEq, Prod.mk.injEq] at h
    obtain ⟨rfl, rfl⟩ := h
    exact ⟨[], by simp, by simp, by simp⟩
  | k + 1, a, L, a', L', h => by
    unfold stepsR at h
    split at h
    · simp only [Sum.inl.injEq, Prod.mk.injEq] at h
      obtain ⟨rfl, rfl⟩ := h
      exact ⟨[], by simp, by simp, by simp⟩
    · split at h
      · rename_i h2
        obtain ⟨M, e1, e2, e3⟩ := steps_back k _ _ _ _ h
        obtain ⟨f1, f2⟩ := line_back h2
        refine ⟨lineV s a :: M, by rw [e1]; simp, by rw [f1, e2]; simp, fun l hl => ?_⟩
        rcases List.mem_cons.1 hl with rfl | hl
        · exact f2
        · exact e3 l hl
      · cases h

theorem print_parse {s : S} {y : Wi} (h : parseR s = .inr y) : y.printV = (s, 0) := by
  unfold parseR at h
  split at h
  · rename_i h1
    have hp := (mt_full [49, 10, 98] s).1 h1
    have hs : s = [49, 10, 98] ++ s.drop 3 := (List.prefix_iff_eq_append.1 hp).symm
    have hl3 := hp.length_le
    simp only [List.length_cons, List.length_nil] at hl3
    unfold parse2 at h
    split at h
    · rename_i h2
      obtain ⟨b, hb, hb3, hbl⟩ := getR_ok (by omega) h2
      split at h
      · rename_i h3
        have hgr : good ((s.drop 3).takeWhile isDig) ∧ (getR s 3).1 = ((valA 0 ((s.drop 3).takeWhile isDig) : Nat) : Int) ∧ (getR s 3).2.1 = 3 + (((s.drop 3).takeWhile isDig).length : Int) := by
          unfold getR at h2 ⊢
          split at h2
          · cases h2
          · rename_i h4
            rw [if_neg h4]
            split at h2
            · rename_i h5
              rw [if_pos h5]
              exact ⟨h5.2, rfl, rfl⟩
            · cases h2
        obtain ⟨g1, g2, g3⟩ := hgr
        obtain ⟨ds, hds⟩ : ∃ ds, ds = (s.drop 3).takeWhile isDig := ⟨_, rfl⟩
        rw [← hds] at g1 g2 g3
        have hbe : b = 3 + ds.length := by omega
        have htn : ((getR s 3).2.1).toNat = 3 + ds.length := by omega
        rw [htn] at h3 h
        rw [g2] at h
        have hd : s.drop 3 = ds ++ s.drop (3 + ds.length) := by
          have e := List.prefix_iff_eq_append.1 (List.takeWhile_prefix (p := isDig) (l := s.drop 3))
          rw [← List.drop_drop, hds]
          exact e.symm
        have hnl := (mt_nl _).1 h3
        have hlt : 3 + ds.length < s.length := by
          rw [List.getElem?_drop] at hnl
          exact (List.getElem?_eq_some_iff.1 hnl).1
        have hd2 : s.drop (3 + ds.length) = 10 :: s.drop (3 + ds.length + 1) := by
          rw [List.drop_eq_getElem_cons hlt]
          rw [List.getElem?_drop, Nat.add_zero, List.getElem?_eq_getElem hlt] at hnl
          rw [Option.some.inj hnl]
        unfold parse3 at h
        split at h
        · rename_i h4
          obtain ⟨f1, f2⟩ := line_back h4
          generalize hq : stepsR s (s.length + 1) (3 + ds.length + 1 + (lineS s (3 + ds.length + 1)).length + 1) [] = q at h
          unfold parse4 at h
          split at h
          · cases h
          · rename_i a' L'
            split at h
            · rename_i h5
              split at h
              · rename_i h6
                obtain ⟨M, e1, e2, e3⟩ := steps_back _ _ _ _ _ hq
                have hp5 := (mt_full [46, 10] _).1 h5
                have hend : s.drop a' = [46, 10] := by
                  refine (hp5.eq_of_length ?_).symm
                  simp; omega
                simp only [Sum.inr.injEq] at h
                subst h
                have e1 : L' = M := by simpa using e1
                subst e1
                have hv : (valA 0 ds) ≤ 2147483647 := g1.1
                have hodd : Wi.odd ⟨((valA 0 ds : Nat) : Int), lineV s (3 + ds.length + 1), L'⟩ = false := by
                  unfold Wi.odd
                  rw [no_odd f2]
                  simp only [Bool.false_or]
                  exact List.any_eq_false.2 fun l hl => by rw [no_odd (e3 l hl)]; decide
                unfold Wi.printV
                rw [if_pos ⟨by simp [fitsB]; omega, hodd⟩]
                congr 1
                unfold Wi.txt
                rw [itoa_nat, g1.2, List.flatMap_cons]
                conv => rhs; rw [hs, hd, hd2, f1, e2, hend]
                simp
              · cases h
            · cases h
        · cases h
      · cases h
    · cases h
  · cases h

/-- Where it is none the error is one. -/
theorem parse_err {s : S} {a : Nat} {e : Int} (h : parseR s = .inl (a, e)) : e ≠ 0 := by
  unfold parseR at h
  split at h
  · unfold parse2 at h
    split at h
    · split at h
      · unfold parse3 at h
        split at h
        · generalize stepsR s _ _ _ = q at h
          unfold parse4 at h
          split at h
          · cases h; decide
          · split at h
            · split at h
              · cases h
              · cases h; decide
            · cases h; decide
        · cases h; decide
      · cases h; decide
    · rename_i h2; cases h; exact h2
  · cases h; decide

theorem few_txt {w : Wi} (h : w.few = true) : ((w.st :: w.steps).flatMap lineW).length ≤ 3000 := by
  unfold Wi.few at h
  simp only [Bool.and_eq_true, decide_eq_true_eq, List.all_eq_true] at h
  obtain ⟨h1, h2, h3⟩ := h
  have : ∀ l : List Cl, (∀ x ∈ l, x.length ≤ 60) → (l.flatMap lineW).length ≤ l.length * 61 := fun l => by
    induction l with
    | nil => simp
    | cons a l ih =>
      intro hl
      have := ih fun x hx => hl x (by simp [hx])
      have := hl a (by simp)
      simp only [List.flatMap_cons, List.length_append, lineW, List.length_map, List.length_cons, List.length_nil]
      omega
  have := this (w.st :: w.steps) (fun x hx => by
    rcases List.mem_cons.1 hx with rfl | hx
    · omega
    · exact h3 x hx)
  simp only [List.length_cons] at this
  omega

end Go.Proofs.YtboolnpmlmgpkaaGreatDoor

set_option linter.unusedVariables false
set_option maxRecDepth 20000
set_option linter.unusedSimpArgs false
set_option linter.unnecessarySimpa false
namespace Go.Proofs.YtboolnpmlmgpkaaGreatDoor
open Go Go.Proofs Go.Abs

theorem parse_val (s : S) : ∃ (y : Wi) (e a b : Int), parseV s = .tup [y.v, .agg [vi e, vi a, vi b]] ∧ ((e = 0 ∧ a = 0 ∧ b = 0 ∧ parseR s = .inr y) ∨ (e ≠ 0 ∧ y = ⟨0, [], []⟩)) := by
  cases h : parseR s with
  | inl p =>
    obtain ⟨a, e⟩ := p
    have he := parse_err h
    refine ⟨⟨0, [], []⟩, e, (spPlace s a).1, (spPlace s a).2, ?_, .inr ⟨he, rfl⟩⟩
    unfold parseV
    rw [h]
    show V.tup [_, spFail s a e] = _
    unfold spFail
    rw [if_neg he]
  | inr y => exact ⟨y, 0, 0, 0, by unfold parseV; rw [h], .inl ⟨rfl, rfl, rfl, rfl⟩⟩
theorem same_self (w : Wi) : w.same w = true := by simp [Wi.same]
theorem few_txt2 {w : Wi} (h : w.few = true) : w.printV.1.length ≤ 4000 := by
  have := few_txt h
  unfold Wi.printV
  split
  · rename_i h1
    have hf : 0 ≤ w.bad ∧ w.bad ≤ 2147483647 := by simpa [fitsB] using h1.1
    have := itoa_len w.bad hf.1 hf.2
    simp only [Wi.txt, List.length_append, List.length_cons, List.length_nil] at *
    omega
  · simp
theorem back_txt {s : S} {y : Wi} (h : parseR s = .inr y) : ((y.st :: y.steps).flatMap lineW).length ≤ s.length := by
  have := print_parse h
  unfold Wi.printV at this
  split at this
  · have e : y.txt ++ [46, 10] = s := by simpa using this
    rw [← e]
    simp only [Wi.txt, List.length_append]
    omega
  · cases this

set_option maxHeartbeats 16000000 in
theorem ev_back (w : Wi) (s : S) (hl : ((w.st :: w.steps).flatMap lineW).length ≤ 2000000000000) : Ev TE 10 [w.v, .str s] (.bool true) := by
  have hM : maxLen = 9223372036854775807 := rfl
  have hf := ev_few22 w
  have hpr := ev_wprint w hl
  have hsm := ev_wsame w w
  rw [same_self] at hsm
  unfold Wi.v at *
  refine Ev.of_awp Tryz.func10 rfl (by simp [nts]) ?_
  
  refine awp_seq (vc_ok mixed _ _ _ _ ?_)
  simp only [sz.down, Nat.reduceLT, TEP, nts, Tryz.results10]
  refine awp_seq (vc_ok mixed _ _ _ _ ?_)
  simp only [sz.down, Nat.reduceLT, TEP, ens]
  refine ACalls.ev ev_works22 rfl ?_
  simp only [sz.down, ↓reduceIte, Nat.reduceLT, TEP]
  refine awp_seq (vc_ok mixed _ _ _ _ ?_)
  simp only [sz.down, ↓reduceIte, Nat.reduceLT, TEP]
  refine awp_seq (vc_ok mixed _ _ _ _ ?_)
  simp only [sz.down, ↓reduceIte, Nat.reduceEqDiff, Nat.reduceLT, Nat.reduceAdd, reduceCtorEq, TEP, tis, ens]
  refine ACalls.ev hf rfl ?_
  simp only [sz.down, ↓reduceIte, Nat.reduceLT, TEP]
  refine awp_seq (vc_ok mixed _ _ _ _ ?_)
  simp only [sz.down, ↓reduceIte, Nat.reduceEqDiff, Nat.reduceLT, Nat.reduceAdd, reduceCtorEq, TEP, tis, ens]
  refine ACalls.ev hpr rfl ?_
  simp only [sz.down, ↓reduceIte, Nat.reduceEqDiff, Nat.reduceLT, Nat.reduceAdd, TEP]
  cases hfew : w.few with
  | false =>
    refine awp_seq (vc_ok mixed _ _ _ _ ?_)
    simp only [sz.down, ↓reduceIte, Nat.reduceEqDiff, Nat.reduceLT, reduceCtorEq, TEP, tis]
    repeat (refine ⟨.bool true, ?_⟩; simp only [sz.down, ↓reduceIte, Nat.reduceEqDiff, Nat.reduceLT, Nat.reduceLeDiff, Nat.reduceAdd, Nat.reduceSub, Int.reduceToNat, Nat.reduceDiv, Int.reduceLT, Int.reduceLE, Int.reduceNeg, Int.reduceBEq, Int.reduceBNe, Int.reduceAdd, Int.reduceSub, Nat.reduceBEq, reduceCtorEq, Nat.reduceMul, sp.down, pvNilI, Tryz.results10])
    exact Reif.dat rfl
  | true =>
  cases hls : decide (700 < (s.length : Int)) with
  | true =>
    refine awp_seq (vc_ok mixed _ _ _ _ ?_)
    simp only [sz.down, ↓reduceIte, Nat.reduceEqDiff, Nat.reduceLT, TEP, tis, hls]
    exact Reif.dat rfl
  | false =>
  have hls' : s.length ≤ 700 := by simp only [decide_eq_false_iff_not] at hls; omega
  have ht := few_txt2 hfew
  obtain ⟨y2, e2, a2, b2, hv2, hc2⟩ := parse_val s
  have hp2 := ev_wparse s (by omega)
  rw [hv2] at hp2
  have hpr2 : Ev TE 48 [y2.v] (.tup [.str y2.printV.1, vi y2.printV.2]) := ev_wprint y2 (by
    rcases hc2 with ⟨_, _, _, h⟩ | ⟨_, rfl⟩
    · have := back_txt h; omega
    · decide)
  have hfin : (e2 = 0 ∧ a2 = 0 ∧ b2 = 0 ∧ y2.printV = (s, 0)) ∨ (e2 ≠ 0 ∧ y2 = ⟨0, [], []⟩) := hc2.imp (fun h => ⟨h.1, h.2.1, h.2.2.1, print_parse h.2.2.2⟩) id
  have hs2 := ev_wsame y2 ⟨0, [], []⟩
  have hs2 := hs2.les (VLes.cons (VLe.refl _) (VLes.cons vle_nilW (VLes.refl _)))
  obtain ⟨t, ht'⟩ : ∃ t, t = w.printV.1 := ⟨_, rfl⟩
  obtain ⟨pe, hpe⟩ : ∃ pe, pe = w.printV.2 := ⟨_, rfl⟩
  obtain ⟨u, hu⟩ : ∃ u, u = y2.printV.1 := ⟨_, rfl⟩
  obtain ⟨ue, hue⟩ : ∃ ue, ue = y2.printV.2 := ⟨_, rfl⟩
  rw [← hu, ← hue] at hpr2
  rw [← ht'] at ht
  obtain ⟨x1, e1, a1, b1, hv1, hc1⟩ := parse_val t
  have hp1 := ev_wparse t (by omega)
  rw [hv1] at hp1
  have key : (pe = 0 ∧ e1 = 0 ∧ x1 = w) ∨ (pe ≠ 0 ∧ t = []) := by
    by_cases hh : fitsB w.bad = true ∧ w.odd = false
    · have e : w.printV = (w.txt ++ [46, 10], 0) := by unfold Wi.printV; rw [if_pos hh]
      have hr := parse_print hh.1 hh.2
      have et : t = w.txt ++ [46, 10] := by rw [ht', e]
      rw [← et] at hr
      refine .inl ⟨by rw [hpe, e], ?_⟩
      rcases hc1 with ⟨q1, _, _, q2⟩ | ⟨q1, _⟩
      · rw [hr] at q2; exact ⟨q1, (Sum.inr.inj q2).symm⟩
      · exfalso
        unfold parseV at hv1
        rw [hr] at hv1
        simp only [V.tup.injEq, List.cons.injEq, V.agg.injEq, V.int.injEq] at hv1
        exact q1 hv1.2.1.1.2.symm
    · have e : w.printV = ([], 1) := by unfold Wi.printV; rw [if_neg hh]
      exact .inr ⟨by rw [hpe, e]; decide, by rw [ht', e]⟩
  rw [← ht', ← hpe]
  unfold Wi.v at *
  refine awp_seq (vc_ok mixed _ _ _ _ ?_)
  simp only [sz.down, ↓reduceIte, Nat.reduceEqDiff, Nat.reduceLT, TEP, tis, hls]
  refine awp_seq (vc_ok mixed _ _ _ _ ?_)
  simp only [sz.down, ↓reduceIte, Nat.reduceEqDiff, Nat.reduceLT, TEP, ens]
  refine ACalls.ev hp1 rfl ?_
  simp only [sz.down, ↓reduceIte, Nat.reduceEqDiff, Nat.reduceLT, Nat.reduceAdd, TEP, tis]
  refine awp_seq (awp_mono (Q := fun xx f h => xx = .normal ∧ f.t 1 = .str s ∧ f.t 5 = .bool true ∧ f.d = [] ∧ h = [O.cells [vi w.bad, ints w.st, cls w.steps], O.cells [vi x1.bad, ints x1.st, cls x1.steps], O.cells [vi e1, vi a1, vi b1]]) ?_ ?_)
  · rintro xx f h ⟨rfl, h1, h5, hd, rfl⟩
    show awp _ _ _ _ _ _ _
    refine awp_seq (vc_ok mixed _ _ _ _ ?_)
    simp only [sz.down, ↓reduceIte, Nat.reduceLT, TEP, ens, h1]
    refine ACalls.ev hp2 rfl ?_
    simp only [sz.down, ↓reduceIte, Nat.reduceEqDiff, Nat.reduceLT, Nat.reduceAdd, TEP, tis]
    refine awp_seq (vc_ok mixed _ _ _ _ ?_)
    simp only [sz.down, ↓reduceIte, Nat.reduceEqDiff, Nat.reduceLT, Nat.reduceAdd, reduceCtorEq, TEP, tis, ens]
    refine ACalls.ev hpr2 rfl ?_
    simp only [sz.down, ↓reduceIte, Nat.reduceEqDiff, Nat.reduceLT, Nat.reduceAdd, TEP]
    rcases hfin with ⟨rfl, rfl, rfl, hpv⟩ | ⟨he2, rfl⟩
    · have hu' : u = s := by rw [hu, hpv]
      have hue' : ue = 0 := by rw [hue, hpv]
      subst hu' hue'
      have hss : (u == u) = true := by simp
      refine vc_ok mixed _ _ _ _ ?_
      simp only [sz.down, ↓reduceIte, Nat.reduceEqDiff, Nat.reduceLT, Nat.reduceLeDiff, Nat.reduceAdd, Int.reduceBNe, reduceCtorEq, TEP, tis, h1, h5, hd, ia_fail]
      repeat (refine ⟨.bool true, ?_⟩; simp only [sz.down])
      exact Reif.dat rfl
    · have hne : (e2 != 0) = true := by simpa using he2
      have hsz := same_self ⟨0, [], []⟩
      rw [hsz] at hs2
      refine vc_ok mixed _ _ _ _ ?_
      simp only [sz.down, ↓reduceIte, Nat.reduceEqDiff, Nat.reduceLT, Nat.reduceLeDiff, Nat.reduceAdd, reduceCtorEq, TEP, tis, ens, h5, hne]
      refine ACalls.ev hs2 rfl ?_
      simp only [sz.down, ↓reduceIte, Nat.reduceEqDiff, Nat.reduceLT, Nat.reduceAdd, reduceCtorEq, TEP, tis, h1, hd]
      repeat (refine ⟨.bool true, ?_⟩; simp only [sz.down, ↓reduceIte, Nat.reduceEqDiff, Nat.reduceLT, Nat.reduceLeDiff, Nat.reduceAdd, Nat.reduceSub, Int.reduceToNat, Nat.reduceDiv, Int.reduceLT, Int.reduceLE, Int.reduceNeg, Int.reduceBEq, Int.reduceBNe, Int.reduceAdd, Int.reduceSub, Nat.reduceBEq, reduceCtorEq, Nat.reduceMul, sp.down, pvNilI, Tryz.results10, callK_p, h1, h5, hd, hne])
      exact Reif.dat rfl
  · rcases key with ⟨rfl, rfl, rfl⟩ | ⟨hpe0, rfl⟩
    · refine vc_ok mixed _ _ _ _ ?_
      simp only [sz.down, ↓reduceIte, Nat.reduceEqDiff, Nat.reduceLT, Nat.reduceLeDiff, Nat.reduceAdd, Int.reduceBNe, reduceCtorEq, TEP, tis, ens]
      refine ACalls.ev hsm rfl ?_
      simp only [sz.down, ↓reduceIte, Nat.reduceEqDiff, Nat.reduceLT, Nat.reduceLeDiff, Int.reduceBNe, reduceCtorEq, TEP]
      repeat (refine ⟨.bool true, ?_⟩; simp only [sz.down, ↓reduceIte, Nat.reduceEqDiff, Nat.reduceLT, Nat.reduceLeDiff, Nat.reduceAdd, Nat.reduceSub, Int.reduceToNat, Nat.reduceDiv, Int.reduceLT, Int.reduceLE, Int.reduceNeg, Int.reduceBEq, Int.reduceBNe, Int.reduceAdd, Int.reduceSub, Nat.reduceBEq, reduceCtorEq, Nat.reduceMul, sp.down, pvNilI, Tryz.results10, callK_p])
    · have z1 : (pe == 0) = false := by simpa using hpe0
      have z2 : (pe != 0) = true := by simpa using hpe0
      refine vc_ok mixed _ _ _ _ ?_
      simp only [sz.down, ↓reduceIte, Nat.reduceEqDiff, Nat.reduceLT, Nat.reduceLeDiff, Nat.reduceAdd, reduceCtorEq, TEP, tis, z1, z2]
      repeat (refine ⟨.bool true, ?_⟩; simp only [sz.down, ↓reduceIte, Nat.reduceEqDiff])

end Go.Proofs.YtboolnpmlmgpkaaGreatDoor
