/- Functions of the program, part 18. -/
import Derived.Test.YtegnjoonhabicaaF16
set_option linter.unusedVariables false
set_option linter.unusedSimpArgs false
set_option linter.unnecessarySimpa false
namespace Go.Proofs.Ytegnjoonhabicaa
open Go Go.Proofs Go.Abs Go.RowKit

theorem Der.more {l l' : List Cl} {g g' : Cl} (hl : ∀ c ∈ l, c ∈ l') (hg : ∀ a ∈ g, a ∈ g') {a : Int} (h : Der l g a) : Der l' g' a := by
  induction h with
  | start a h => exact .start a (hg a h)
  | unit c a h1 h2 _ ih => exact .unit c a (hl c h1) h2 ih
theorem Bad.more {l l' : List Cl} {g g' : Cl} (hl : ∀ c ∈ l, c ∈ l') (hg : ∀ a ∈ g, a ∈ g') (h : Bad l g) : Bad l' g' := by
  rcases h with ⟨c, h1, h2⟩ | ⟨a, h1, h2⟩
  · exact .inl ⟨c, hl c h1, fun b hb => (h2 b hb).more hl hg⟩
  · exact .inr ⟨a, h1.more hl hg, h2.more hl hg⟩
theorem badB_more {l l' : List Cl} {g g' : Cl} (hl : ∀ c ∈ l, c ∈ l') (hg : ∀ a ∈ g, a ∈ g') (h : badB l g = true) : badB l' g' = true := badB_true ((of_badB h).more hl hg)

/-- Each step follows. -/
def StepsOk : List Cl → List Cl → Prop
  | _, [] => True
  | all, c :: s => badB all (negs c) = true ∧ StepsOk (all ++ [c]) s

theorem leadF_iff : ∀ {s all : List Cl}, leadF all s = true ↔ StepsOk all s ∧ badB (all ++ s) [] = true
  | [], all => by simp [leadF, StepsOk]
  | c :: s, all => by
    unfold leadF StepsOk
    rw [Bool.and_eq_true, leadF_iff, and_assoc, List.append_assoc, List.singleton_append]

theorem steps_app : ∀ {s t all : List Cl}, StepsOk all (s ++ t) ↔ StepsOk all s ∧ StepsOk (all ++ s) t
  | [], t, all => by simp [StepsOk]
  | c :: s, t, all => by
    show (badB all (negs c) = true ∧ StepsOk (all ++ [c]) (s ++ t)) ↔ (badB all (negs c) = true ∧ StepsOk (all ++ [c]) s) ∧ StepsOk (all ++ c :: s) t
    rw [steps_app, and_assoc, List.append_assoc, List.singleton_append]

theorem steps_more : ∀ {s all all' : List Cl}, (∀ c ∈ all, c ∈ all') → StepsOk all s → StepsOk all' s
  | [], _, _, _, _ => trivial
  | c :: s, all, all', h, hs => ⟨badB_more h (fun _ h => h) hs.1, steps_more (fun x hx => by
      rcases List.mem_append.1 hx with hx | hx
      · exact List.mem_append_left _ (h x hx)
      · exact List.mem_append_right _ hx) hs.2⟩

theorem pruneF_spec (l : List Cl) : ∀ (k : Nat) (left : List Cl), k ≤ left.length → leadF l left = true →
    ∃ A : List Cl, (∀ c ∈ A, c ∈ left.take k) ∧ pruneF l k left = A ++ left.drop k ∧ leadF l (pruneF l k left) = true ∧ ∀ n, n < A.length → leadF l ((pruneF l k left).eraseIdx n) = false
  | 0, left, _, h => ⟨[], by simp, by simp [pruneF], by simpa [pruneF] using h, by simp⟩
  | k + 1, left, hk, h => by
    have hlt : k < left.length := by omega
    have he : left.eraseIdx k = left.take k ++ left.drop (k + 1) := List.eraseIdx_eq_take_drop_succ _ _
    have htk : (left.take k).length = k := by rw [List.length_take]; omega
    cases hb : leadF l (left.eraseIdx k) with
    | true =>
      have hp : pruneF l (k + 1) left = pruneF l k (left.eraseIdx k) := by rw [pruneF, if_pos hb]
      obtain ⟨A, h1, h2, h3, h4⟩ := pruneF_spec l k (left.eraseIdx k) (by rw [List.length_eraseIdx_of_lt hlt]; omega) hb
      rw [hp]
      refine ⟨A, fun c hc => ?_, ?_, h3, h4⟩
      · have := h1 c hc
        rw [he, List.take_append_of_le_length (by omega), List.take_take, Nat.min_self] at this
        exact (List.take_subset_take_left left (by omega)) this
      · rw [h2, he, List.drop_append_of_le_length (by omega)]
        rw [List.drop_of_length_le (by omega), List.nil_append]
    | false =>
      have hp : pruneF l (k + 1) left = pruneF l k left := by rw [pruneF, if_neg (by simp [hb])]
      obtain ⟨A, h1, h2, h3, h4⟩ := pruneF_spec l k left (by omega) h
      have hd : left.drop k = left[k] :: left.drop (k + 1) := List.drop_eq_getElem_cons hlt
      rw [hp]
      refine ⟨A ++ [left[k]], fun c hc => ?_, ?_, h3, fun n hn => ?_⟩
      · rcases List.mem_append.1 hc with hc | hc
        · exact (List.take_subset_take_left left (by omega)) (h1 c hc)
        · have : c = left[k] := by simpa using hc
          subst this
          rw [List.mem_take_iff_getElem]
          exact ⟨k, by omega, rfl⟩
      · rw [h2, hd, List.append_assoc, List.singleton_append]
      · by_cases hn2 : n < A.length
        · exact h4 n hn2
        · have hn3 : n = A.length := by simp at hn; omega
          subst hn3
          have e : (pruneF l k left).eraseIdx A.length = A ++ left.drop (k + 1) := by
            rw [h2, hd, List.eraseIdx_append_of_length_le (Nat.le_refl _), Nat.sub_self, List.eraseIdx_cons_zero]
          rw [e]
          cases hq : leadF l (A ++ left.drop (k + 1)) with
          | false => rfl
          | true =>
            have g1 := leadF_iff.1 hq
            have g2 := (leadF_iff.1 h).1
            have g3 : StepsOk l (left.take k) := by
              have : left = left.take k ++ left.drop k := (List.take_append_drop k left).symm
              rw [this] at g2
              exact (steps_app.1 g2).1
            have g4 := (steps_app.1 g1.1).2
            have hsub : ∀ c ∈ l ++ A, c ∈ l ++ left.take k := fun c hc => by
              rcases List.mem_append.1 hc with hc | hc
              · exact List.mem_append_left _ hc
              · exact List.mem_append_right _ (h1 c hc)
            have : leadF l (left.eraseIdx k) = true := by
              rw [he]
              refine leadF_iff.2 ⟨steps_app.2 ⟨g3, steps_more hsub g4⟩, badB_more (fun c hc => ?_) (fun _ h => h) g1.2⟩
              rw [← List.append_assoc] at hc ⊢
              rcases List.mem_append.1 hc with hc | hc
              · exact List.mem_append_left _ (hsub c hc)
              · exact List.mem_append_right _ hc
            rw [this] at hb; cases hb

theorem prune_all {l steps : List Cl} (h : leadF l steps = true) : (∀ c ∈ pruneF l steps.length steps, c ∈ steps) ∧ leadF l (pruneF l steps.length steps) = true ∧
    ∀ n, n < (pruneF l steps.length steps).length → leadF l ((pruneF l steps.length steps).eraseIdx n) = false := by
  obtain ⟨A, h1, h2, h3, h4⟩ := pruneF_spec l steps.length steps (Nat.le_refl _) h
  rw [List.drop_length, List.append_nil] at h2
  rw [h2] at h3 h4 ⊢
  exact ⟨fun c hc => by simpa using h1 c hc, h3, h4⟩

theorem ask_sub {l s s' : List Cl} {vars : Int} (h : ask l vars s = 0) (hs : ∀ c ∈ s', c ∈ s) : ask l vars s' = 0 := by
  obtain ⟨_, _, _, _, _, h1, _, h2⟩ := ask_ok h
  unfold ask
  rw [if_neg (by simp [h1]), if_pos]
  rw [List.all_eq_true]
  intro c hc
  rw [List.all_eq_true]
  exact fun a ha => h2 c (hs c hc) a ha

end Go.Proofs.Ytegnjoonhabicaa
