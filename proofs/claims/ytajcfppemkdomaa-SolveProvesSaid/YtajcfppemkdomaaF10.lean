/- Functions of the program, part 10. -/
import Derived.Test.YtajcfppemkdomaaF09
import Derived.Test.YtajcfppemkdomaaA9
import Derived.Test.YtajcfppemkdomaaF02
import Derived.Test.YtajcfppemkdomaaF01
set_option linter.unusedVariables false
set_option linter.unusedSimpArgs false
set_option linter.unnecessarySimpa false
namespace Go.Proofs.Ytajcfppemkdomaa
open Go Go.Proofs Go.Abs

section
variable {n : Nat} {bud : Int} {L : Lay} {S : St} {h : H} {a : Int} {j : Nat} {l d Lc : List Cl}

def planE2 : Plan := .take 0 <| .alt 1 (.alt 2 (.take 3 <| .take 4 <| .alt 5 (.alt 6 (.one 7 <| .take 8 <| .take 9 <| .one 10 <| .one 11 <| .one 12 <| .one 13 <| .fin) (.one 7 (.take 8 <| .take 9 <| .alt 6 (.one 10 <| .one 11 <| .one 12 <| .one 13 <| .fin) (.one 10 (.one 6 <| .one 11 <| .one 12 <| .one 13 <| .fin))))) (.one 7 (.take 8 <| .take 9 <| .alt 5 (.alt 6 (.one 10 <| .one 11 <| .one 12 <| .one 13 <| .fin) (.one 10 (.one 6 <| .one 11 <| .one 12 <| .one 13 <| .fin))) (.one 10 (.one 5 <| .one 6 <| .one 11 <| .one 12 <| .one 13 <| .fin))))) (.one 7 (.take 8 <| .take 9 <| .alt 2 (.take 3 <| .take 4 <| .alt 5 (.alt 6 (.one 10 <| .one 11 <| .one 12 <| .one 13 <| .fin) (.one 10 (.one 6 <| .one 11 <| .one 12 <| .one 13 <| .fin))) (.one 10 (.one 5 <| .one 6 <| .one 11 <| .one 12 <| .one 13 <| .fin))) (.one 10 (.one 2 <| .take 3 <| .take 4 <| .one 5 <| .one 6 <| .one 11 <| .one 12 <| .one 13 <| .fin))))) (.alt 2 (.take 3 <| .take 4 <| .alt 1 (.alt 5 (.alt 6 (.one 7 <| .take 8 <| .take 9 <| .one 10 <| .one 11 <| .one 12 <| .one 13 <| .fin) (.one 7 (.take 8 <| .take 9 <| .alt 6 (.one 10 <| .one 11 <| .one 12 <| .one 13 <| .fin) (.one 10 (.one 6 <| .one 11 <| .one 12 <| .one 13 <| .fin))))) (.one 7 (.take 8 <| .take 9 <| .alt 5 (.alt 6 (.one 10 <| .one 11 <| .one 12 <| .one 13 <| .fin) (.one 10 (.one 6 <| .one 11 <| .one 12 <| .one 13 <| .fin))) (.one 10 (.one 5 <| .one 6 <| .one 11 <| .one 12 <| .one 13 <| .fin))))) (.alt 5 (.alt 1 (.alt 6 (.one 7 <| .take 8 <| .take 9 <| .one 10 <| .one 11 <| .one 12 <| .one 13 <| .fin) (.one 7 (.take 8 <| .take 9 <| .alt 6 (.one 10 <| .one 11 <| .one 12 <| .one 13 <| .fin) (.one 10 (.one 6 <| .one 11 <| .one 12 <| .one 13 <| .fin))))) (.alt 6 (.alt 1 (.one 7 <| .take 8 <| .take 9 <| .one 10 <| .one 11 <| .one 12 <| .one 13 <| .fin) (.one 7 (.take 8 <| .take 9 <| .alt 1 (.one 10 <| .one 11 <| .one 12 <| .one 13 <| .fin) (.one 10 (.one 1 <| .one 11 <| .one 12 <| .one 13 <| .fin))))) (.one 7 (.take 8 <| .take 9 <| .alt 1 (.alt 6 (.one 10 <| .one 11 <| .one 12 <| .one 13 <| .fin) (.one 10 (.one 6 <| .one 11 <| .one 12 <| .one 13 <| .fin))) (.alt 6 (.alt 1 (.one 10 <| .one 11 <| .one 12 <| .one 13 <| .fin) (.one 10 (.one 1 <| .one 11 <| .one 12 <| .one 13 <| .fin))) (.one 10 (.alt 1 (.one 6 <| .one 11 <| .one 12 <| .one 13 <| .fin) (.one 6 (.one 1 <| .one 11 <| .one 12 <| .one 13 <| .fin))))))))) (.one 7 (.take 8 <| .take 9 <| .alt 1 (.alt 5 (.alt 6 (.one 10 <| .one 11 <| .one 12 <| .one 13 <| .fin) (.one 10 (.one 6 <| .one 11 <| .one 12 <| .one 13 <| .fin))) (.one 10 (.one 5 <| .one 6 <| .one 11 <| .one 12 <| .one 13 <| .fin))) (.alt 5 (.alt 1 (.alt 6 (.one 10 <| .one 11 <| .one 12 <| .one 13 <| .fin) (.one 10 (.one 6 <| .one 11 <| .one 12 <| .one 13 <| .fin))) (.alt 6 (.alt 1 (.one 10 <| .one 11 <| .one 12 <| .one 13 <| .fin) (.one 10 (.one 1 <| .one 11 <| .one 12 <| .one 13 <| .fin))) (.one 10 (.alt 1 (.one 6 <| .one 11 <| .one 12 <| .one 13 <| .fin) (.one 6 (.one 1 <| .one 11 <| .one 12 <| .one 13 <| .fin)))))) (.one 10 (.alt 1 (.one 5 <| .one 6 <| .one 11 <| .one 12 <| .one 13 <| .fin) (.one 5 (.alt 1 (.one 6 <| .one 11 <| .one 12 <| .one 13 <| .fin) (.one 6 (.one 1 <| .one 11 <| .one 12 <| .one 13 <| .fin))))))))))) (.one 7 (.take 8 <| .take 9 <| .alt 1 (.alt 2 (.take 3 <| .take 4 <| .alt 5 (.alt 6 (.one 10 <| .one 11 <| .one 12 <| .one 13 <| .fin) (.one 10 (.one 6 <| .one 11 <| .one 12 <| .one 13 <| .fin))) (.one 10 (.one 5 <| .one 6 <| .one 11 <| .one 12 <| .one 13 <| .fin))) (.one 10 (.one 2 <| .take 3 <| .take 4 <| .one 5 <| .one 6 <| .one 11 <| .one 12 <| .one 13 <| .fin))) (.alt 2 (.take 3 <| .take 4 <| .alt 1 (.alt 5 (.alt 6 (.one 10 <| .one 11 <| .one 12 <| .one 13 <| .fin) (.one 10 (.one 6 <| .one 11 <| .one 12 <| .one 13 <| .fin))) (.one 10 (.one 5 <| .one 6 <| .one 11 <| .one 12 <| .one 13 <| .fin))) (.alt 5 (.alt 1 (.alt 6 (.one 10 <| .one 11 <| .one 12 <| .one 13 <| .fin) (.one 10 (.one 6 <| .one 11 <| .one 12 <| .one 13 <| .fin))) (.alt 6 (.alt 1 (.one 10 <| .one 11 <| .one 12 <| .one 13 <| .fin) (.one 10 (.one 1 <| .one 11 <| .one 12 <| .one 13 <| .fin))) (.one 10 (.alt 1 (.one 6 <| .one 11 <| .one 12 <| .one 13 <| .fin) (.one 6 (.one 1 <| .one 11 <| .one 12 <| .one 13 <| .fin)))))) (.one 10 (.alt 1 (.one 5 <| .one 6 <| .one 11 <| .one 12 <| .one 13 <| .fin) (.one 5 (.alt 1 (.one 6 <| .one 11 <| .one 12 <| .one 13 <| .fin) (.one 6 (.one 1 <| .one 11 <| .one 12 <| .one 13 <| .fin)))))))) (.one 10 (.alt 1 (.one 2 <| .take 3 <| .take 4 <| .one 5 <| .one 6 <| .one 11 <| .one 12 <| .one 13 <| .fin) (.one 2 (.take 3 <| .take 4 <| .alt 1 (.one 5 <| .one 6 <| .one 11 <| .one 12 <| .one 13 <| .fin) (.one 5 (.alt 1 (.one 6 <| .one 11 <| .one 12 <| .one 13 <| .fin) (.one 6 (.one 1 <| .one 11 <| .one 12 <| .one 13 <| .fin))))))))))))

theorem flat_sub {α : Type} (f : Nat → List α) (k : Nat) (hk : ∀ i, (f i).length = k) : ∀ (m j : Nat), j < m → (((List.range m).flatMap f).drop (j * k)).take k = f j
  | 0, j, h => by omega
  | m + 1, j, h => by
    have hlen : ∀ m, ((List.range m).flatMap f).length = m * k := by
      intro m
      induction m with
      | zero => simp
      | succ m ih => rw [List.range_succ, List.flatMap_append, List.length_append, ih]; simp [hk, Nat.succ_mul]
    rw [List.range_succ, List.flatMap_append]
    by_cases hj : j < m
    · have h1 : (j + 1) * k ≤ m * k := Nat.mul_le_mul_right k hj
      rw [Nat.succ_mul] at h1
      rw [List.drop_append_of_le_length (by rw [hlen]; omega), List.take_append_of_le_length (by rw [List.length_drop, hlen]; omega)]
      exact flat_sub f k hk m j hj
    · have : j = m := by omega
      subst this
      have h2 : ((List.range j).flatMap f).drop (j * k) = [] := List.drop_of_length_le (by rw [hlen]; exact Nat.le_refl _)
      rw [List.drop_append, h2, hlen, Nat.sub_self, List.drop_zero]
      simp [← hk j]

/-- What is still known of the search's objects. -/
structure Got (n : Nat) (bud : Int) (L : Lay) (S : St) (c7 b9 : Nat) (h : H) : Prop where
  b : h[b9]? = some (.cells [.lp L.s 0])
  s : h[L.s]? = some (.cells (solcells n bud L S))
  v : h[L.v]? = some (.cells (vcells L S n))
  g : h[L.g]? = some (.cells ((List.range S.ln.length).map (lnV L S)))
  k : ∀ i, i < S.ln.length → h[L.k i]? = some (.cells ((S.ln.getD i []).map vi))
  e : h[c7]? = some (.cells [vi 0])
theorem Got.of (hs : HS n bud L S h) {b9 c7 : Nat} (hb9 : L.ro b9 = some (.e (boxO L))) (hc7 : L.ro c7 = some (.e (.cells [vi 0]))) : Got n bud L S c7 b9 h :=
  ⟨(hs.ext _ _ hb9).1, hs.sol, hs.var, hs.lnl, fun i hi => (hs.lnk i hi).1, (hs.ext _ _ hc7).1⟩
theorem Got.map {h' h0 : H} {b9 c7 : Nat} {p : Nat → Bool} (k : Got n bud L S c7 b9 h') (hs : HS n bud L S h0) (hb9 : L.ro b9 = some (.e (boxO L))) (hc7 : L.ro c7 = some (.e (.cells [vi 0]))) (hp : ∀ i r, L.ro i = some r → p i = false) : Got n bud L S c7 b9 (h'.map (O.drop p)) := by
  have g0 := Got.of hs hb9 hc7
  have g1 := Got.of (hs.dropN hp) hb9 hc7
  have key : ∀ {i : Nat} {o : O}, h0[i]? = some o → (h0.map (O.drop p))[i]? = some o → h'[i]? = some o → (h'.map (O.drop p))[i]? = some o := fun {i o} q1 q2 q3 => by
    rw [List.getElem?_map, q1, Option.map_some] at q2
    rw [List.getElem?_map, q3, Option.map_some, q2]
  exact ⟨key g0.b g1.b k.b, key g0.s g1.s k.s, key g0.v g1.v k.v, key g0.g g1.g k.g, fun i hi => key (g0.k i hi) (g1.k i hi) (k.k i hi), key g0.e g1.e k.e⟩
theorem Got.congr {h' : H} {b9 c7 : Nat} (k : Got n bud L S c7 b9 h) (he : ∀ i, (i = b9 ∨ i = L.s ∨ i = L.v ∨ i = L.g ∨ (∃ j, j < S.ln.length ∧ i = L.k j) ∨ i = c7) → h'[i]? = h[i]?) : Got n bud L S c7 b9 h' :=
  ⟨(he _ (.inl rfl)).trans k.b, (he _ (.inr (.inl rfl))).trans k.s, (he _ (.inr (.inr (.inl rfl)))).trans k.v, (he _ (.inr (.inr (.inr (.inl rfl))))).trans k.g, fun i hi => (he _ (.inr (.inr (.inr (.inr (.inl ⟨i, hi, rfl⟩)))))).trans (k.k i hi), (he _ (.inr (.inr (.inr (.inr (.inr rfl)))))).trans k.e⟩

set_option maxHeartbeats 4000000 in
theorem end_calls (hs : HS n bud L S h) (hn : n ≤ 20000) {b9 c6 c7 : Nat} (hb9 : L.ro b9 = some (.e (boxO L))) (hc6 : L.ro c6 = some (.e (.cells [vi 0, .nils, vi 0, .nils]))) (hc7 : L.ro c7 = some (.e (.cells [vi 0]))) (h67 : c6 ≠ c7) (res : Int) (hln : S.ln.length ≤ 100000000) {K : H → (Nat → Bool) → Prop}
    (hk : ∀ h' p va vs, ((res ≠ 1 ∧ vs = []) ∨ (res = 1 ∧ vs = valsS n S)) → ((va = .nils ∧ vs = []) ∨ ∃ id, va = .ls id 1 0 vs.length vs.length ∧ h'[id]? = some (.cells (vs.map .bool))) → h'[c6]? = some (.cells [vi res, va, vi S.ln.length, .ls L.g 1 0 S.ln.length S.ln.length]) →
      Got n bud L S c7 b9 h' → (∀ q, p q = true → L.ro q = none) → K h' p) :
    ACallsD TE 21 [.lp b9 0, .lp c6 0, .lp c7 0] (.iface 53 (.agg [vi res])) h K := by
  have hM : maxLen = 9223372036854775807 := rfl
  
  have e1 : ∀ o o' : O, List.set (h ++ [o]) h.length o' = h ++ [o'] := fun o o' => by rw [List.set_append_right _ _ (Nat.le_refl _)]; simp
  have e2 : ∀ o : O, (h ++ [o])[h.length]? = some o := fun o => by simp
  refine ACallsD.of_awp rfl Try.func21 rfl rfl (by simp [nts]) rfl (fun ev w => rfl) rfl (by decide) ?_
  simp only [nts]
  refine awpL_vc rfl rfl ?_
  simp only [sz.down, ↓reduceIte, TEP, tis]
  refine ⟨by decide, ?_⟩
  refine awpL_vc rfl rfl ?_
  simp only [sz.down, ↓reduceIte, TEP]
  refine awpL_vc rfl rfl ?_
  simp only [sz.down, ↓reduceIte, Nat.reduceLT, Nat.reduceAdd, TEP]
  refine awpL_vc rfl rfl ?_
  simp only [sz.down, ↓reduceIte, Nat.reduceEqDiff, Nat.reduceLT, Nat.reduceAdd, TEP]
  refine awpL_vc rfl rfl ?_
  simp only [sz.down, TEP, tis]
  refine awpL_vc rfl rfl ?_
  simp only [sz.down, ↓reduceIte, Nat.reduceEqDiff, TEP, tis, e1, e2]
  refine awpL_vc rfl rfl ?_
  simp only [sz.down, ↓reduceIte, Nat.reduceEqDiff, TEP]
  refine awpL_nil ?_
  show awp _ _ _ _ _ _ _
  have hA := hs.app [O.cells [vi res]]
  obtain ⟨hB, ehB⟩ : ∃ hB, hB = h ++ [O.cells [vi res]] := ⟨_, rfl⟩
  have hBl : hB.length = h.length + 1 := by rw [ehB]; simp
  have hBt : hB[h.length]? = some (.cells [vi res]) := by rw [ehB]; exact e2 _
  rw [← ehB] at hA
  have hb9' := (hA.ext _ _ hb9).1
  have hc6' := (hA.ext _ _ hc6).1
  have hc7' := (hA.ext _ _ hc7).1
  have hsolA := hA.sol
  unfold boxO at hb9'
  have hl6 := hA.rlt _ _ hc6
  have hl7 := hA.rlt _ _ hc7
  have e3 : (h ++ [O.cells [V.int IntKind.i64 res]]) = hB := ehB.symm
  refine awp_seq (vc_ok mixed _ _ _ _ ?_)
  simp only [sz.down, ↓reduceIte, Nat.reduceLT, TEP, e3]
  refine awp_seq ?_
  refine awp_plan mixed planE2 (fun f' h' => f'.t 0 = .lp b9 0 ∧ f'.t 1 = .lp c6 0 ∧ f'.t 2 = .lp c7 0 ∧ f'.t 3 = .lp h.length 0 ∧ f'.d = [] ∧ (∀ q, f'.k q = false) ∧ h' = (hB.set c6 (.cells [vi res, .nils, vi S.ln.length, .ls L.g 1 0 S.ln.length S.ln.length])).set c7 (.cells [vi 0])) (by decide +kernel) (by decide +kernel) ?_ ?_
  · simp only [sz.down, ↓reduceIte, Nat.reduceEqDiff, Nat.reduceLT, Nat.reduceLeDiff, Nat.reduceAdd, reduceCtorEq, TEP, tis, planE2, hBt, hb9', hc6', hc7', hsolA, solcells, List.getElem?_set_ne, h67, ne_eq, not_false_eq_true]
  · rintro f2 h2 ⟨g0, g1, g2, g3, gd, gk, rfl⟩
    show awp _ _ _ _ _ _ _
    have ne67 : ∀ i, (i = b9 ∨ i = L.s ∨ i = L.v ∨ i = L.g ∨ (∃ j, j < S.ln.length ∧ i = L.k j) ∨ i = c7) → c6 ≠ i ∧ ∃ r, L.ro i = some r := fun i hi => by
      rcases hi with rfl | rfl | rfl | rfl | ⟨j, hj, rfl⟩ | rfl
      · exact ⟨ro_ne L hc6 hb9 (by simp [boxO]), _, hb9⟩
      · exact ⟨ro_ne L hc6 hs.rs (by simp), _, hs.rs⟩
      · exact ⟨ro_ne L hc6 hs.rv (by simp), _, hs.rv⟩
      · exact ⟨ro_ne L hc6 hs.rg (by simp), _, hs.rg⟩
      · exact ⟨ro_ne L hc6 (hs.lnk j hj).2 (by simp), _, (hs.lnk j hj).2⟩
      · exact ⟨h67, _, hc7⟩
    have hgot : Got n bud L S c7 b9 ((hB.set c6 (.cells [vi res, .nils, vi S.ln.length, .ls L.g 1 0 S.ln.length S.ln.length])).set c7 (.cells [vi 0])) := by
      refine (Got.of hA hb9 hc7).congr fun i hi => ?_
      obtain ⟨q1, r, q2⟩ := ne67 i hi
      by_cases q3 : c7 = i
      · subst q3
        rw [List.getElem?_set_self (by simpa using hl7)]
        exact hc7'.symm
      · rw [List.getElem?_set_ne q3, List.getElem?_set_ne q1]
    obtain ⟨h2, eh2⟩ : ∃ h2, h2 = (hB.set c6 (.cells [vi res, .nils, vi S.ln.length, .ls L.g 1 0 S.ln.length S.ln.length])).set c7 (.cells [vi 0]) := ⟨_, rfl⟩
    rw [← eh2] at hgot ⊢
    have hc62 : h2[c6]? = some (.cells [vi res, .nils, vi S.ln.length, .ls L.g 1 0 S.ln.length S.ln.length]) := by rw [eh2, List.getElem?_set_ne h67.symm, List.getElem?_set_self hl6]
    have hro3 : L.ro h.length = none := noro hs
    have ht2 : h2[h.length]? = some (.cells [vi res]) := by
      rw [eh2, List.getElem?_set_ne (fun e => by rw [← e, hc7] at hro3; cases hro3), List.getElem?_set_ne (fun e => by rw [← e, hc6] at hro3; cases hro3)]; exact hBt
    have hl2 : h2.length = h.length + 1 := by rw [eh2]; simp [hBl]
    by_cases hr1 : res = 1
    · have eb : (res == 1) = true := by simpa using hr1
      refine vc_ok mixed _ _ _ _ ?_
      simp only [sz.down, ↓reduceIte, Nat.reduceLT, Nat.reduceLeDiff, Nat.reduceAdd, Int.reduceToNat, Int.reduceLE, reduceCtorEq, Nat.reduceMul, TEP, tis, g0, g3, ht2, eb, hgot.b, hgot.s, solcells]
      rw [Nat.add_sub_cancel]
      refine ⟨by omega, ?_⟩
      have hvl : (valsS n S).length = n := by simp [valsS]
      refine awp_loop (fun m f3 h3 => ∃ (i : Nat) (va : V), m + i = n ∧ Got n bud L S c7 b9 h3 ∧ h3[c6]? = some (.cells [vi res, va, vi S.ln.length, .ls L.g 1 0 S.ln.length S.ln.length]) ∧
          ((i = 0 ∧ va = .nils) ∨ ∃ id, va = .ls id 1 0 i i ∧ h3[id]? = some (.cells (((valsS n S).take i).map .bool)) ∧ h.length ≤ id) ∧
          f3.t 0 = .lp b9 0 ∧ f3.t 1 = .lp c6 0 ∧ f3.t 33 = .ls L.v 5 5 n n ∧ f3.t 34 = vi n ∧ f3.t 35 = vi i ∧ f3.d = [] ∧ (∀ q, f3.k q = true → h.length ≤ q) ∧ h.length ≤ h3.length) n
        ⟨0, .nils, by omega, hgot, hc62, .inl ⟨rfl, rfl⟩, by simp only [sz.down, ↓reduceIte, reduceCtorEq, g0], by simp only [sz.down, ↓reduceIte, Nat.reduceEqDiff, g1], by simp only [sz.down, ↓reduceIte, Nat.reduceEqDiff], by simp only [sz.down, ↓reduceIte, Nat.reduceEqDiff]; try rfl, by simp only [sz.down, ↓reduceIte]; try rfl, by simp only [sz.down, gd], (fun q hq => by have hq : f2.k q = true := hq; rw [gk] at hq; cases hq), by omega⟩ ?_
      rintro m f3 h3 ⟨i, va, hm, got, h36, hva, k0, k1, k33, k34, k35, kd, kk, hl3⟩
      by_cases hi : i < n
      · have eb2 : decide ((i : Int) < (n : Int)) = true := by rw [decide_eq_true_eq]; omega
        have hv := got.v
        have hel : ((vcells L S n).drop (5 + i * 5)).take 5 = vcell L S (S.v (i + 1)) := by
          rw [show 5 + i * 5 = (i + 1) * 5 by omega]
          exact flat_sub (fun i => vcell L S (S.v i)) 5 (fun _ => rfl) (n + 1) (i + 1) (by omega)
        have e1' : ∀ o o' : O, List.set (h3 ++ [o]) h3.length o' = h3 ++ [o'] := fun o o' => by rw [List.set_append_right _ _ (Nat.le_refl _)]; simp
        have e2' : ∀ o : O, (h3 ++ [o])[h3.length]? = some o := fun o => by simp
        have hvc5 : (vcell L S (S.v (i + 1))).length = 5 := rfl
        have hao : allOne (vcell L S (S.v (i + 1))) = true := by
          unfold vcell
          rcases reV_cases L S (S.v (i + 1)).reason with hrv | ⟨id, len, hrv⟩ <;> rw [hrv] <;> rfl
        have hg0 : (vcell L S (S.v (i + 1))).getD 0 .any = vi (S.v (i + 1)).value := rfl
        refine awp_seq (vc_ok mixed _ _ _ _ ?_)
        simp only [sz.down, Nat.reduceLT, TEP, k34, k35, eb2]
        refine awp_seq (vc_ok mixed _ _ _ _ ?_)
        simp only [sz.down, ↓reduceIte]
        refine awp_seq (awp_block ?_)
        refine awp_seq (vc_ok mixed _ _ _ _ ?_)
        simp only [sz.down, ↓reduceIte, Nat.reduceEqDiff, Nat.reduceLT, Nat.reduceAdd, reduceCtorEq, TEP, tis, k33, k35, hv, vcells_len, hel, e1', e2', hvc5, hao]
        refine ⟨⟨by omega, by omega⟩, by omega, ?_⟩
        have hlow : ∀ q r, L.ro q = some r → q < h.length := fun q r hq => hs.rlt _ _ hq
        have hc6l := hlow _ _ hc6
        obtain ⟨h4, eh4⟩ : ∃ h4, h4 = h3 ++ [O.cells (vcell L S (S.v (i + 1)))] := ⟨_, rfl⟩
        have q4t : h4[h3.length]? = some (.cells (vcell L S (S.v (i + 1)))) := by rw [eh4]; exact e2' _
        have q46 : h4[c6]? = some (.cells [vi res, va, vi S.ln.length, .ls L.g 1 0 S.ln.length S.ln.length]) := by rw [eh4, List.getElem?_append_left (by omega)]; exact h36
        have q4l : h4.length = h3.length + 1 := by rw [eh4]; simp
        have got4 : Got n bud L S c7 b9 h4 := got.congr fun q hq => by
          obtain ⟨_, r, q2⟩ := ne67 q hq
          rw [eh4, List.getElem?_append_left (by have := hlow _ _ q2; omega)]
        rw [← eh4]
        have hws : IntKind.i64.wrap ((i : Int) + 1) = ((i + 1 : Nat) : Int) := by rw [wrap64 (by omega) (by omega)]; omega
        have etk : (valsS n S).take (i + 1) = (valsS n S).take i ++ [decide (0 < (S.v (i + 1)).value)] := by
          rw [List.take_add_one, List.getElem?_eq_getElem (by omega)]
          simp [valsS]
        have hc6l4 : c6 < h4.length := by omega
        rcases hva with ⟨rfl, rfl⟩ | ⟨idv, rfl, hid, hidl⟩
        · have e3' : ∀ o : O, (h4 ++ [o])[c6]? = h4[c6]? := fun o => List.getElem?_append_left hc6l4
          refine vc_ok mixed _ _ _ _ ?_
          simp only [sz.down, ↓reduceIte, Nat.reduceEqDiff, Nat.reduceLT, Nat.reduceLeDiff, Nat.reduceAdd, reduceCtorEq, Nat.reduceMul, TEP, tis, k1, q4t, q46, hg0, hvc5, e3']
          refine ⟨⟨rfl, by decide⟩, by decide, ?_⟩
          refine vc_ok mixed _ _ _ _ ?_
          simp only [sz.down, ↓reduceIte, Nat.reduceEqDiff, Nat.reduceLT, TEP, k35]
          refine .inl ⟨m - 1, by omega, 1, .ls h4.length 1 0 1 1, by omega, (got4.congr fun q hq => ?_), List.getElem?_set_self (by simp; omega), .inr ⟨h4.length, rfl, ?_, by omega⟩, by simp only [sz.down, ↓reduceIte, reduceCtorEq, k0], by simp only [sz.down, ↓reduceIte, Nat.reduceEqDiff, k1], by simp only [sz.down, ↓reduceIte, Nat.reduceEqDiff, k33], by simp only [sz.down, ↓reduceIte, Nat.reduceEqDiff, k34], by simp only [sz.down, ↓reduceIte]; try rfl, by simp only [sz.down, kd], kk, by simp; omega⟩
          · obtain ⟨q1, r, q2⟩ := ne67 q hq
            rw [List.getElem?_set_ne q1, List.getElem?_append_left (by have := hlow _ _ q2; omega)]
          · rw [List.getElem?_set_ne (by omega)]
            have := etk
            simp only [Nat.zero_add, List.take_zero, List.nil_append] at this
            rw [this]
            simp
        · have hid4 : h4[idv]? = some (.cells (((valsS n S).take i).map .bool)) := by rw [eh4, List.getElem?_append_left (List.getElem?_eq_some_iff.1 hid).1]; exact hid
          have hidl4 := (List.getElem?_eq_some_iff.1 hid4).1
          have hbl : (((valsS n S).take i).map V.bool).length = i := by rw [List.length_map, List.length_take, hvl]; omega
          have hdb : V.drops (fun x => x == idv) (((valsS n S).take i).map V.bool) = ((valsS n S).take i).map V.bool := drops_id fun v hv => by
            obtain ⟨_, _, rfl⟩ := List.mem_map.1 hv
            simp only [V.drop]
          have hn6 : c6 ≠ idv := by omega
          have z6 : (c6 == idv) = false := by simp [hn6]
          have z9 : (b9 == idv) = false := by have := hlow _ _ hb9; simp; omega
          have zv : (L.v == idv) = false := by have := hlow _ _ hs.rv; simp; omega
          have zg : (L.g == idv) = false := by have := hlow _ _ hs.rg; simp; omega
          have zt : (h3.length == idv) = false := by have := (List.getElem?_eq_some_iff.1 hid).1; simp; omega
          refine vc_ok mixed _ _ _ _ ?_
          simp only [sz.down, ↓reduceIte, Nat.reduceEqDiff, Nat.reduceLT, Nat.reduceLeDiff, Nat.reduceAdd, reduceCtorEq, Nat.reduceMul, TEP, tis, k1, kd, q4t, q46, hg0, hvc5, hid4, hdb, z6, zg, List.getElem?_set_ne, hn6.symm, ne_eq, not_false_eq_true, List.getElem?_map]
          refine ⟨⟨rfl, by decide⟩, ⟨by rw [List.length_take, hvl]; omega, by omega, by omega⟩, ?_⟩
          refine vc_ok mixed _ _ _ _ ?_
          simp only [sz.down, ↓reduceIte, Nat.reduceEqDiff, Nat.reduceLT, TEP, k35, hws]
          have hroi : L.ro idv = none := by
            cases e : L.ro idv with
            | none => rfl
            | some r => have := hs.rlt _ _ e; omega
          have hnr : ∀ q r, L.ro q = some r → (fun x => x == idv) q = false := fun q r hq => by
            simp only [beq_eq_false_iff_ne]
            rintro rfl
            rw [hroi] at hq; cases hq
          have gotm := got4.map hs hb9 hc7 hnr
          refine .inl ⟨m - 1, by omega, i + 1, .ls idv 1 0 (i + 1) (i + 1), by omega, (gotm.congr fun q hq => ?_), List.getElem?_set_self (by simp; omega), .inr ⟨idv, rfl, ?_, hidl⟩, by simp only [sz.down, ↓reduceIte, reduceCtorEq, k0, z9], by simp only [sz.down, ↓reduceIte, Nat.reduceEqDiff, k1, z6], by simp only [sz.down, ↓reduceIte, Nat.reduceEqDiff, k33, zv], by simp only [sz.down, ↓reduceIte, Nat.reduceEqDiff, k34], by simp only [sz.down, ↓reduceIte]; try rfl, by simp only [sz.down, kd], fun q hq => ?_, by simp; omega⟩
          · obtain ⟨q1, r, q2⟩ := ne67 q hq
            rw [List.getElem?_set_ne q1, List.getElem?_set_ne (fun e => by rw [← e, hroi] at q2; cases q2)]
          · rw [List.getElem?_set_ne hn6, List.getElem?_set_self (by simpa using hidl4), etk, List.map_append]; rfl
          · rcases Bool.or_eq_true_iff.1 hq with hq | hq
            · exact kk q hq
            · rw [show q = idv by simpa using hq]; exact hidl
      · have eb2 : decide ((i : Int) < (n : Int)) = false := by rw [decide_eq_false_iff_not]; omega
        refine vc_ok mixed _ _ _ _ ?_
        simp only [sz.down, ↓reduceIte, Nat.reduceLT, reduceCtorEq, TEP, k34, k35, kd, eb2]
        have hin : i = n := by omega
        refine hk h3 f3.k va (valsS n S) (.inr ⟨hr1, rfl⟩) ?_ h36 got fun q hq => ?_
        · rcases hva with ⟨h1, rfl⟩ | ⟨id, rfl, h2, _⟩
          · exact .inl ⟨rfl, List.length_eq_zero_iff.1 (by omega)⟩
          · rw [hin] at h2 ⊢
            rw [List.take_of_length_le (by omega)] at h2
            exact .inr ⟨id, by rw [hvl], h2⟩
        · cases e : L.ro q with
          | none => rfl
          | some r => have := hs.rlt _ _ e; have := kk q hq; omega
    · have eb : (res == 1) = false := by simpa using hr1
      refine vc_ok mixed _ _ _ _ ?_
      simp only [sz.down, ↓reduceIte, Nat.reduceLT, reduceCtorEq, TEP, tis, g3, gd, ht2, eb]
      exact hk h2 f2.k .nils [] (.inl ⟨hr1, rfl⟩) (.inl ⟨rfl, rfl⟩) hc62 hgot fun q hq => by rw [gk] at hq; cases hq
end

end Go.Proofs.Ytajcfppemkdomaa

set_option linter.unusedVariables false
set_option linter.unusedSimpArgs false
set_option linter.unnecessarySimpa false
namespace Go.Proofs.Ytajcfppemkdomaa
open Go Go.Proofs Go.Abs

section
variable {n : Nat} {bud : Int} {h : H} {l d Lc : List Cl}

/-! ### Where a search begins -/
def ro0 : Nat → Option Ro
  | 0 => some (.e (.cells [vi 0, .nils, vi 0, .nils]))
  | 1 => some (.e (.cells [vi 0]))
  | 2 => some .v
  | 3 => some .m
  | 4 => some .s
  | 5 => some (.e (.cells [.lp 4 0]))
  | 6 => some .t
  | 7 => some .l
  | 8 => some .x
  | 9 => some .g
  | _ => none
def lay0 : Lay where
  s := 4
  v := 2
  m := 3
  t := 6
  l := 7
  x := 8
  g := 9
  c := fun _ => 0
  w := fun _ => none
  k := fun _ => 0
  ro := ro0
def heap0 (n : Nat) (bud : Int) : H :=
  [.cells [vi 0, .nils, vi 0, .nils], .cells [vi 0], .cells ((List.range (n + 1)).flatMap fun _ => [vi 0, vi 0, .nils, vi 0, vi 0]), .map [] [],
   .cells (solcells n bud lay0 (initS n [])), .cells [.lp 4 0], .cells [], .cells [], .cells [], .cells []]
theorem hs0 : HS n bud lay0 (initS n []) (heap0 n bud) where
  var := rfl
  map := ⟨[], rfl, List.nodup_nil, fun a _ => ⟨rfl, rfl⟩⟩
  trl := rfl
  lvl := rfl
  nxl := rfl
  lnl := rfl
  lnk := fun i hi => by simp [initS] at hi
  cla := fun j hj => by simp [initS] at hj
  wat := fun a => rfl
  fre := fun i hi j hj => by cases hj
  fwt := fun a j hj => by cases hj
  rs := rfl
  rv := rfl
  rm := rfl
  rt := rfl
  rl := rfl
  rx := rfl
  rg := rfl
  rlt := fun i r hi => by
    show i < 10
    have hi : ro0 i = _ := hi
    unfold ro0 at hi
    split at hi <;> first | omega | cases hi
  ext := fun i o hi => by
    have hi : ro0 i = _ := hi
    unfold ro0 at hi
    split at hi <;> first | (cases hi; done) | skip
    · cases hi
      exact ⟨rfl, fun p hp => by simp only [O.drop_cells, V.drops, V.drop]⟩
    · cases hi
      exact ⟨rfl, fun p hp => by simp only [O.drop_cells, V.drops, drop_vi]⟩
    · cases hi
      refine ⟨rfl, fun p hp => ?_⟩
      have h4 : p 4 = false := by
        cases e : p 4 with
        | false => rfl
        | true => have := hp 4 .s rfl e; simp at this
      simp only [O.drop_cells, V.drops, V.drop, h4, if_false, Bool.false_eq_true]
  sol := rfl

/-- The empty clause is never learned. -/
theorem Log.few1 {S : St} (g : Log n l S) : S.ln.length + 1 ≤ 3 ^ n := by
  have h := nodup_le (m := 3 ^ n) (l := ([] :: S.ln).map fun c => code3 c n) (by
    rw [List.map_cons, List.nodup_cons]
    refine ⟨fun hm => ?_, ?_⟩
    · obtain ⟨c, hc, he⟩ := List.mem_map.1 hm
      obtain ⟨h1, h2, h3⟩ := g.lrg c hc
      obtain ⟨a, r, rfl⟩ := List.exists_cons_of_ne_nil h1
      have := code3_mem h2 h3 (by simp) (by simp) he a (by simp)
      cases this
    · rw [List.Nodup, List.pairwise_map]
      refine g.lnew.imp_of_mem fun {a b} ha hb hab e => hab fun x => ?_
      obtain ⟨_, h1, h2⟩ := g.lrg a ha
      obtain ⟨_, h3, h4⟩ := g.lrg b hb
      exact ⟨code3_mem h1 h2 h3 h4 e x, code3_mem h3 h4 h1 h2 e.symm x⟩) (by
    intro x hx
    obtain ⟨c, _, rfl⟩ := List.mem_map.1 hx
    exact code3_lt c n)
  simpa using h

/-! ### What is told -/
def SolveOk (l : List Cl) (n : Nat) (bud : Int) (res : Int) (vals : List Bool) (ln : List Cl) : Prop :=
  (ln.length : Int) ≤ bud ∧ (∀ m (hm : m < ln.length), Bad (l ++ ln.take m) (negs ln[m])) ∧ (∀ c ∈ ln, c ≠ [] ∧ (c.map Int.natAbs).Nodup ∧ ∀ a ∈ c, a ≠ 0 ∧ a.natAbs ≤ n) ∧ ln.length + 1 ≤ 3 ^ n ∧
  ((res = 0 ∧ vals = [] ∧ Bad (l ++ ln) []) ∨ (res = 1 ∧ vals.length = n ∧ sat l vals = true) ∨ (res = 2 ∧ vals = [] ∧ (ln.length : Int) = bud))
def SolveR (l : List Cl) (vars budget : Int) (r : V) : Prop :=
  (chk l vars ≠ 0 ∧ r = .tup [.agg [vi 0, bools [], vi 0, cls []], vi (chk l vars)]) ∨
  (chk l vars = 0 ∧ ∃ res vals ln, r = .tup [.agg [vi res, bools vals, vi ln.length, cls ln], vi 0] ∧ SolveOk l vars.toNat (max budget 0) res vals ln)

/-! ### What is told, as data -/
theorem reifs_map {α : Type} {f g : α → V} {h' : H} : ∀ {l : List α}, (∀ i ∈ l, Reif TE h' (f i) (g i)) → Reifs TE h' (l.map f) (l.map g)
  | [], _ => Reifs.nil
  | a :: l, hh => Reifs.cons (hh a (by simp)) (reifs_map fun i hi => hh i (by simp [hi]))
theorem learned_reif {L : Lay} {S : St} {h' : H} (hg : h'[L.g]? = some (.cells ((List.range S.ln.length).map (lnV L S)))) (hk : ∀ i, i < S.ln.length → h'[L.k i]? = some (.cells ((S.ln.getD i []).map vi))) : Reif TE h' (.ls L.g 1 0 S.ln.length S.ln.length) (cls S.ln) := by
  refine Reif.ls hg ?_ (fit_cls _) (flat_cls _) (by simp)
  have e : (S.ln.map fun c => ints c) = (List.range S.ln.length).map fun i => ints (S.ln.getD i []) := by
    apply List.ext_getElem?
    intro i
    by_cases hi : i < S.ln.length
    · simp [hi, List.getD_eq_getElem?_getD]
    · simp [Nat.not_lt.1 hi]
  rw [e]
  refine reifs_map fun i hi => ?_
  exact Reif.ls (hk i (List.mem_range.1 hi)) (Reifs.dat (dats_vi _)) (fit_vi _) (flat_vi _) (by simp)

theorem solve_fin {L : Lay} {S : St} (hs : HS n bud L S h) (x0 : LX 0 lay0 L) (hn : n ≤ 20000) (hln : S.ln.length ≤ 100000000) {res budget : Int} (hbud : bud = max budget 0) (hz : chk l n = 0) (hok : SolveOk l n bud res (if res = 1 then valsS n S else []) S.ln)
    {f : Fr} (hd : f.d = []) (h6 : f.t 6 = .lp 0 0) (h7 : f.t 7 = .lp 1 0) :
    ACallsD TE 21 [.lp 5 0, .lp 0 0, .lp 1 0] (.iface 53 (.agg [vi res])) h (fun h'' p => fnEnd TE.P Try.f9.results.toList (fun v h k => match AEnd.ret v with | .ret v => ∃ r, SolveR l n budget r ∧ Reif TE h v r | .pan _ => False) (f.drop p) h'') := by
  have r0 : L.ro 0 = some (.e (.cells [vi 0, .nils, vi 0, .nils])) := x0.ro 0 _ rfl
  have r1 : L.ro 1 = some (.e (.cells [vi 0])) := x0.ro 1 _ rfl
  have r5 : L.ro 5 = some (.e (boxO L)) := by
    have := x0.ro 5 _ (rfl : lay0.ro 5 = some (.e (.cells [.lp 4 0])))
    unfold boxO
    rw [x0.s]
    exact this
  refine end_calls hs hn r5 r0 r1 (by decide) res hln ?_
  intro h' p va vs hvs hva h0 got hp
  have p0 : p 0 = false := by
    cases e : p 0 with
    | false => rfl
    | true => have := hp 0 e; rw [r0] at this; cases this
  have p1 : p 1 = false := by
    cases e : p 1 with
    | false => rfl
    | true => have := hp 1 e; rw [r1] at this; cases this
  have q6 : V.drop p (f.t 6) = .lp 0 0 := by
    rw [h6]; simp only [V.drop, p0, if_false, Bool.false_eq_true]
  have q7 : V.drop p (f.t 7) = .lp 1 0 := by
    rw [h7]; simp only [V.drop, p1, if_false, Bool.false_eq_true]
  have q8 : (f.drop p).d = [] := hd
  have h1 := got.e
  have hvse : vs = if res = 1 then valsS n S else [] := by
    rcases hvs with ⟨q, rfl⟩ | ⟨q, rfl⟩
    · rw [if_neg q]
    · rw [if_pos q]
  unfold fnEnd
  rw [q8]
  simp only [shutAll]
  
  simp only [sz.down, Nat.reduceEqDiff, Nat.reduceAdd, reduceCtorEq, TEP, tis, Try.results9, q6, q7, h0, h1]
  refine ⟨.tup [.agg [vi res, bools vs, vi S.ln.length, cls S.ln], vi 0], .inr ⟨hz, res, vs, S.ln, rfl, ?_⟩, ?_⟩
  · rw [hvse, ← hbud]; exact hok
  · refine Reif.tup (Reifs.cons (Reif.agg (Reifs.cons (Reif.dat rfl) (Reifs.cons ?_ (Reifs.cons (Reif.dat rfl) (Reifs.cons (learned_reif got.g got.k) Reifs.nil))))) (Reifs.cons (Reif.dat rfl) Reifs.nil))
    rcases hva with ⟨rfl, rfl⟩ | ⟨id, rfl, hid⟩
    · exact Reif.nils
    · exact Reif.ls hid (Reifs.dat (dats_b _)) (fit_b _) (flat_b _) (by simp)
end

end Go.Proofs.Ytajcfppemkdomaa

set_option linter.unusedVariables false
set_option linter.unusedSimpArgs false
set_option linter.unnecessarySimpa false
namespace Go.Proofs.Ytajcfppemkdomaa
open Go Go.Proofs Go.Abs

section
variable {n : Nat} {bud : Int} {h : H} {l d Lc : List Cl}

theorem pvMax0 (b : Int) : pvMax [vi b, vi 0] = (True, vi (max b 0)) := by
  simp only [pvMax]
  split
  · rw [show max b 0 = 0 by omega]
  · rw [show max b 0 = b by omega]

set_option maxHeartbeats 4000000 in
theorem solve_ev (l : List Cl) (vars budget : Int) (hcn : ∀ c ∈ l, c.length ≤ 1000) (hB : chk l vars = 0 → ∃ B, Big vars.toNat l (max budget 0) B) : EvR TE 9 [cls l, vi vars, vi budget] (SolveR l vars budget) := by
  have hM : maxLen = 9223372036854775807 := rfl
  refine EvR.of_calls ?_
  
  refine ACalls.of_awpM rfl Try.func9 rfl (by simp [nts]) fun ok pl0 w0 => ?_
  simp only [nts]
  refine awpM_seq (Q := fun _ _ _ => False) ?_ (fun _ _ _ h => by obtain ⟨_, _, _, _, _, _, h⟩ := h; exact h.elim)
  refine vc_ok mixed _ _ _ _ ?_
  simp only [sz.down, Nat.reduceLT, TEP, tis]
  refine awpM_seq (Q := fnPost P [ResultVar.cell 6 27, ResultVar.cell 7 28] fun ae h _ => match ae with | .ret v => ∃ r, SolveR l vars budget r ∧ Reif TE h v r | .pan _ => False) ?_ ?_
  · refine vc_ok mixed _ _ _ _ ?_
    simp only [sz.down, ↓reduceIte, Nat.reduceEqDiff, Nat.reduceLT, reduceCtorEq, TEP, ens]
    refine ACalls.ev (ev_check l vars) (by simp [V.dats, V.dat]) ?_
    by_cases hz : chk l vars = 0
    · have eb : (chk l vars != 0) = false := by simp [hz]
      simp only [sz.down, ↓reduceIte, Nat.reduceLT, TEP, eb]
      obtain ⟨B, big⟩ := hB hz
      obtain ⟨v1, v2, v3, v4⟩ := chk_vars hz
      obtain ⟨n, en⟩ : ∃ n : Nat, vars = n := ⟨vars.toNat, by omega⟩
      subst en
      have hn : n ≤ 20000 := by omega
      rw [Int.toNat_natCast] at big
      have hw1 : IntKind.i64.wrap ((n : Int) + 1) = ((n + 1 : Nat) : Int) := by rw [wrap64 (by omega) (by omega)]; omega
      refine awpM_seq (Q := fun _ _ _ => False) ?_ (fun _ _ _ h => by obtain ⟨_, _, _, _, _, _, h⟩ := h; exact h.elim)
      refine awp_list ?_
      refine awpL_vc rfl rfl ?_
      simp only [sz.down, ↓reduceIte, Nat.reduceEqDiff, TEP]
      refine awpL_vc rfl rfl ?_
      simp only [sz.down, ↓reduceIte, TEP, hw1]
      refine awpL_op rfl rfl ?_
      refine eff_makeSliceK (t := 46) rfl (q := { kind := .slice 56, size := 1, bytes := 24, zero := .nils }) (by simp only [sz.down, TEP, tis]) (el := 56) rfl (re := { kind := K.struct [(0, 3), (1, 3), (2, 44), (3, 3), (4, 3)], size := 5, bytes := 56, zero := V.agg [V.int IntKind.i64 0, V.int IntKind.i64 0, V.nils, V.int IntKind.i64 0, V.int IntKind.i64 0] }) (by simp only [sz.down, TEP, tis]) rfl rfl (by decide) (by simp only [sz.down, ↓reduceIte]) (by simp only [sz.down, ↓reduceIte]) (k := .i64) (k' := .i64) (m := ((n + 1 : Nat) : Int)) (by simp only [sz.down, ↓reduceIte]) (by simp only [sz.down, ↓reduceIte]) (by omega) (by omega) (by decide) (by rw [Int.toNat_natCast]; show (n + 1) * 5 ≤ _; omega) ?_
      rw [Int.toNat_natCast]
      simp only [sz.down, Nat.reduceAdd]
      refine awpL_vc rfl rfl ?_
      simp only [sz.down, Nat.reduceAdd]
      refine awpL_vc rfl rfl ?_
      simp only [sz.down, ↓reduceIte, Nat.reduceEqDiff, TEP]
      refine awpL_vc rfl rfl ?_
      simp only [sz.down, ↓reduceIte, TEP, pvMax0]
      refine awpL_vc rfl rfl ?_
      simp only [sz.down, ↓reduceIte, Nat.reduceEqDiff, Nat.reduceLeDiff, Nat.reduceAdd, TEP, tis]
      refine awpL_vc rfl rfl ?_
      simp only [sz.down, ↓reduceIte, Nat.reduceAdd]
      refine awpL_vc rfl rfl ?_
      simp only [sz.down, Nat.reduceAdd, TEP, tis]
      refine awpL_vc rfl rfl ?_
      simp only [sz.down, ↓reduceIte, Nat.reduceEqDiff, TEP, tis]
      refine awpL_nil ?_
      show awpM _ _ _ _ _ _ _ _ _
      refine awpM_defer rfl (fn := Try.f9) (q := 21) (caps := [.lp 5 0, .lp 0 0, .lp 1 0]) (fx := .tmp 28) rfl rfl (by simp only [sz.down, ↓reduceIte, Nat.reduceEqDiff, TEP]) rfl rfl rfl rfl (by simp only [sz.down, ↓reduceIte, Nat.reduceEqDiff, TEP]) (by simp only [sz.down, ↓reduceIte, Nat.reduceEqDiff, TEP]) (by simp only [sz.down, TEP, ens]) rfl fun dd => ?_
      simp only [nts]
      obtain ⟨ee, hee⟩ : ∃ ee : E, ee = { TE with tl := [dd] } := ⟨_, rfl⟩
      have hP : ee.P = P := by rw [hee]; rfl
      have hmix : ee.P.follows .mixedOrders = true := by rw [hP]; exact mixed
      have hT : ∀ {g : FuncId} {args : List V} {h : H} {R : AEnd → H → (Nat → Bool) → Prop}, ACalls TE g args h R → ACalls ee g args h R := fun hc => by rw [hee]; exact hc.tl _
      rw [← hee]
      refine awp_bare (awp_bare (awp_bare (awp_bare ?_)))
      refine awp_leH (h' := heap0 n (max budget 0)) ?_ ?_
      · exact HLe.set (i := 4) (o' := .cells (solcells n (max budget 0) lay0 (initS n []))) rfl (OLe.cells (Nat.le_refl _) (VLes.cons (VLe.refl _) (VLes.cons (VLe.refl _) (VLes.cons VLe.nil_ls (VLes.cons (VLe.refl _) (VLes.cons VLe.nil_ls (VLes.cons VLe.nil_ls (VLes.cons VLe.nil_ls (VLes.cons (VLe.refl _) (VLes.refl _))))))))))
      obtain ⟨QP, eQP⟩ : ∃ QP : V → Fr → H → Prop, QP = fun v f' h' => f'.d = [] ∧ V.drops f'.k [V.lp 5 0, V.lp 0 0, V.lp 1 0] = [V.lp 5 0, V.lp 0 0, V.lp 1 0] ∧ ACallsD TE 21 [V.lp 5 0, V.lp 0 0, V.lp 1 0] v h' fun h'' p => fnEnd TE.P Try.f9.results.toList (fun v h k => ∃ r, SolveR l (↑n) budget r ∧ Reif TE h v r) (f'.drop p) h'' := ⟨_, rfl⟩
      have dropL : ∀ {p : Nat → Bool}, DX lay0 p → V.drops p [.lp 5 0, .lp 0 0, .lp 1 0] = [.lp 5 0, .lp 0 0, .lp 1 0] := fun {p} hp => by
        have z5 : p 5 = false := hp.e (rfl : lay0.ro 5 = some (.e _))
        have z0 : p 0 = false := hp.e (rfl : lay0.ro 0 = some (.e _))
        have z1 : p 1 = false := hp.e (rfl : lay0.ro 1 = some (.e _))
        simp only [V.drops, V.drop, z5, z0, z1, if_false, Bool.false_eq_true]
      have hfin : ∀ {L' : Lay} {S' : St} {h' : H} {res : Int} {f' : Fr}, HS n (max budget 0) L' S' h' → LX 0 lay0 L' → S'.ln.length ≤ 100000000 → SolveOk l n (max budget 0) res (if res = 1 then valsS n S' else []) S'.ln → f'.d = [] → f'.t 6 = .lp 0 0 → f'.t 7 = .lp 1 0 → DX lay0 f'.k → QP (.iface 53 (.agg [vi res])) f' h' := fun k x hl hok kd k6 k7 kk => by
        rw [eQP]
        exact ⟨kd, dropL kk, solve_fin k x hn hl rfl hz hok kd k6 k7⟩
      refine awp_mono (Q := fun xe f' h' => ∃ v, xe = .pan v ∧ QP v f' h') (fun xe f' h' ⟨v, e, hq⟩ => ⟨v, e, by rw [eQP] at hq; exact hq⟩) ?_
      have hbox : ∀ {L' : Lay} {S' : St} {h' : H}, LX 0 lay0 L' → HS n (max budget 0) L' S' h' → h'[5]? = some (.cells [.lp 4 0]) := fun x k => (k.ext 5 _ (x.ro 5 _ rfl)).1
      refine awp_seq (awp_mono (Q := fun xe f' h' => xe = .normal ∧ ∃ nx : List (Int × Int), nx.Perm ((List.range n).map fun i => (((i + 1 : Nat) : Int), 0)) ∧ HS n (max budget 0) lay0 (nxS (initS n []) nx) h' ∧
        f'.t 0 = cls l ∧ f'.t 6 = .lp 0 0 ∧ f'.t 7 = .lp 1 0 ∧ f'.t 9 = .lp 5 0 ∧ f'.d = [] ∧ DX lay0 f'.k) ?_ ?_)
      · rintro xe f1 h1 ⟨rfl, nx, hperm, hs1, g0, g6, g7, g9, gd, gk⟩
        show awp _ _ _ _ _ _ _
        have i0 : Inv n l [] [] (nxS (initS n []) nx) := by
          refine inv_init n l (fun i h1 h2 => hperm.mem_iff.2 (List.mem_map.2 ⟨i - 1, List.mem_range.2 (by omega), by rw [show i - 1 + 1 = i by omega]⟩)) fun t ht => ?_
          obtain ⟨i, hi, rfl⟩ := List.mem_map.1 (hperm.mem_iff.1 ht)
          have := List.mem_range.1 hi
          exact ⟨by show (1 : Int) ≤ ((i + 1 : Nat) : Int); omega, by show ((i + 1 : Nat) : Int) ≤ n; omega⟩
        have hnl : nx.length = n := by have := hperm.length_eq; simpa using this
        have hll : l.length ≤ 100000 := by omega
        have hlr : ∀ c ∈ l, ∀ a ∈ c, a ≠ 0 ∧ a.natAbs ≤ n := fun c hc a ha => by
          have := lit_rng (v4 c hc a ha)
          omega
        refine awp_seq (awp_mono (Q := fun xe f' h' => (xe = .normal ∧ ∃ S' L', Inv n l l [] S' ∧ S'.nc ≤ l.length ∧ S'.nx = nx ∧ S'.ln = [] ∧ LX 0 lay0 L' ∧ HS n (max budget 0) L' S' h' ∧
          f'.t 6 = .lp 0 0 ∧ f'.t 7 = .lp 1 0 ∧ f'.t 9 = .lp 5 0 ∧ f'.d = [] ∧ DX lay0 f'.k) ∨ (∃ v, xe = .pan v ∧ QP v f' h')) ?_ ?_)
        · rintro xe f2 h2 (⟨rfl, S', L', i1, hnc, hnx, hln, x1, hs2, k6, k7, k9, kd, kk⟩ | ⟨v, rfl, hq⟩)
          · show awp _ _ _ _ _ _ _
            have es : L'.s = 4 := x1.s
            have hh : ∀ R, ACalls TE 24 [V.lp L'.s 0] h2 R → ACalls TE 24 [V.lp 4 0] h2 R := fun R h => by rw [es] at h; exact h
            have hb2 := hbox x1 hs2
            refine vc_ok hmix _ _ _ _ ?_
            simp only [sz.down, ↓reduceIte, Nat.reduceLT, tis, ens, hP, k9, hb2]
            refine hT (hh _ (search_calls big hs2 hlr ⟨by rw [hln]; exact i1, by rw [hln]; have := big.pos; simpa using this, by rw [hln]; simpa using hnc, by rw [hnx, hln, hnl]; simp⟩ fun S3 L3 h3 p res i3 hb3 he3 x3 hs3 dx3 hl3 => ?_))
            have kk3 : DX lay0 (fun i => f2.k i || p i) := kk.or (dx3.back x1.ro)
            have dxp : DX lay0 p := dx3.back x1.ro
            have z0 : p 0 = false := dxp.e (rfl : lay0.ro 0 = some (.e _))
            have z1 : p 1 = false := dxp.e (rfl : lay0.ro 1 = some (.e _))
            have hB3 := big.few S3 i3 hb3
            have hncb := big.nc
            refine ⟨fun i hi => ?_, _, rfl, hfin hs3 (x1.trans x3) (by omega) ⟨hb3, i3.g.rup, i3.g.lrg, i3.g.few1, ?_⟩ kd (by simp only [sz.down, ↓reduceIte, Nat.reduceEqDiff, k6, z0]) (by simp only [sz.down, ↓reduceIte, Nat.reduceEqDiff, k7, z1]) kk3⟩
            · have hi : i ∈ f2.d := hi
              rw [kd] at hi; cases hi
            · rcases he3 with ⟨rfl, hbad⟩ | ⟨rfl, hsat⟩ | ⟨rfl, he⟩
              · exact .inl ⟨rfl, rfl, hbad⟩
              · exact .inr (.inl ⟨rfl, by simp [valsS], hsat⟩)
              · exact .inr (.inr ⟨rfl, rfl, he⟩)
          · exact ⟨v, rfl, hq⟩
        · refine awp_seq (vc_ok hmix _ _ _ _ ?_)
          simp only [sz.down, ↓reduceIte, Nat.reduceLT, tis, hP, g0]
          refine awp_block ?_
          refine awp_loop (fun m f2 h2 => ∃ (i : Nat) (S' : St) (L' : Lay), m + i = l.length ∧ Inv n l (l.take i) [] S' ∧ S'.lv = [] ∧ S'.hd = 0 ∧ S'.nc ≤ i ∧ S'.nx = nx ∧ S'.ln = [] ∧ LX 0 lay0 L' ∧ HS n (max budget 0) L' S' h2 ∧
              f2.t 6 = .lp 0 0 ∧ f2.t 7 = .lp 1 0 ∧ f2.t 9 = .lp 5 0 ∧ f2.t 42 = cls l ∧ f2.t 43 = vi l.length ∧ f2.t 44 = vi i ∧ f2.d = [] ∧ DX lay0 f2.k) l.length
            ⟨0, nxS (initS n []) nx, lay0, by omega, i0, rfl, rfl, Nat.le_refl _, rfl, rfl, LX.refl _ _, hs1, by simp only [sz.down, ↓reduceIte, Nat.reduceEqDiff, g6], by simp only [sz.down, ↓reduceIte, Nat.reduceEqDiff, g7], by simp only [sz.down, ↓reduceIte, Nat.reduceEqDiff, g9], by simp only [sz.down, ↓reduceIte, Nat.reduceEqDiff], by simp only [sz.down, ↓reduceIte, Nat.reduceEqDiff]; try rfl, by simp only [sz.down, ↓reduceIte]; try rfl, by simp only [sz.down, gd], gk⟩ ?_
          rintro m f2 h2 ⟨i, S', L', hm, i1, hlv, hhd, hnc, hnx, hln, x1, hs2, k6, k7, k9, k42, k43, k44, kd, kk⟩
          have hb2 := hbox x1 hs2
          by_cases hi : i < l.length
          · have eb : decide ((i : Int) < (l.length : Int)) = true := by rw [decide_eq_true_eq]; omega
            have hw2 : IntKind.i64.wrap ((i : Int) + 1) = ((i + 1 : Nat) : Int) := by rw [wrap64 (by omega) (by omega)]; omega
            obtain ⟨c, ec⟩ : ∃ c, c = l[i] := ⟨_, rfl⟩
            have hcm : c ∈ l := ec ▸ List.getElem_mem hi
            have hg : (l.map fun c => ints c).getD i .any = ints c := by rw [ec]; simp [List.getD_eq_getElem?_getD, hi]
            have hlm : (l.map fun c => ints c).length = l.length := List.length_map ..
            have etk : l.take (i + 1) = l.take i ++ [c] := by rw [List.take_add_one, List.getElem?_eq_getElem hi, ec]; rfl
            refine vc_ok hmix _ _ _ _ ?_
            simp only [sz.down, ↓reduceIte, Nat.reduceEqDiff, Nat.reduceLT, tis, ens, hP, k9, k42, k43, k44, eb, hb2, hg]
            have es : L'.s = 4 := x1.s
            have hh : ∀ R, ACalls TE 23 [V.lp L'.s 0, ints c] h2 R → ACalls TE 23 [V.lp 4 0, ints c] h2 R := fun R h => by rw [es] at h; exact h
            have i1' : Inv n l (l.take i) [] S' := i1
            refine ⟨⟨by omega, by omega⟩, hT (hh _ (add_calls hs2 hn (by omega) i1 hcm (hlr c hcm) (hcn c hcm) hlv hhd (fun S3 L3 h3 p i3 hlv3 hhd3 hnc3 hnx3 hln3 x3 hs3 hl3 hp3 => ?_) (fun h3 p hbad hs3 hl3 hp3 => ?_)))⟩
            · have dxp : DX L' p := fun q r hq hpq => by
                rcases hp3 q hpq with h | ⟨a, h⟩ | h
                · rw [h] at hq; cases hq
                · rw [x3.ro _ _ hq] at h; cases h; exact .inr (.inr (.inr (.inr ⟨a, rfl⟩)))
                · subst h; rw [hs2.rt] at hq; cases hq; exact .inl rfl
              have dx0 := dxp.back x1.ro
              have z0 : p 0 = false := dx0.e (rfl : lay0.ro 0 = some (.e _))
              have z1 : p 1 = false := dx0.e (rfl : lay0.ro 1 = some (.e _))
              have z5 : p 5 = false := dx0.e (rfl : lay0.ro 5 = some (.e _))
              simp only [sz.down, ↓reduceIte, Nat.reduceEqDiff, Nat.reduceLT, callK_p, hP, k44, kd, hw2]
              have i3' : Inv n l (l.take (i + 1)) [] S3 := by rw [etk]; exact i3
              refine .inl ⟨m - 1, by omega, i + 1, S3, L3, by omega, i3', hlv3, hhd3, by omega, hnx3.trans hnx, hln3.trans hln, x1.trans (x3.mono (Nat.zero_le _)), hs3, by simp only [sz.down, ↓reduceIte, Nat.reduceEqDiff, k6, z0], by simp only [sz.down, ↓reduceIte, Nat.reduceEqDiff, k7, z1], by simp only [sz.down, ↓reduceIte, Nat.reduceEqDiff, k9, z5], by simp only [sz.down, ↓reduceIte, Nat.reduceEqDiff, k42], by simp only [sz.down, ↓reduceIte, Nat.reduceEqDiff, k43], by simp only [sz.down, ↓reduceIte], by simp only [sz.down, kd], kk.or dx0⟩
            · have dxp : DX L' p := fun q r hq hpq => by rw [hp3 q hpq] at hq; cases hq
              have dx0 := dxp.back x1.ro
              have z0 : p 0 = false := dx0.e (rfl : lay0.ro 0 = some (.e _))
              have z1 : p 1 = false := dx0.e (rfl : lay0.ro 1 = some (.e _))
              have e0 : S'.ln.length = 0 := by rw [hln]; rfl
              rw [hln] at hbad
              refine ⟨fun i hi => ?_, .inr ⟨_, rfl, hfin hs3 x1 (by omega) ⟨by rw [e0]; exact big.pos, fun m hm => by omega, fun c hc => by (rw [hln] at hc; cases hc), by rw [e0]; exact Nat.pow_pos (by decide), .inl ⟨rfl, rfl, by rw [hln]; exact hbad⟩⟩ kd (by simp only [sz.down, ↓reduceIte, Nat.reduceEqDiff, k6, z0]) (by simp only [sz.down, ↓reduceIte, Nat.reduceEqDiff, k7, z1]) (kk.or dx0)⟩⟩
              have hi : i ∈ f2.d := hi
              rw [kd] at hi; cases hi
          · have eb : decide ((i : Int) < (l.length : Int)) = false := by rw [decide_eq_false_iff_not]; omega
            refine vc_ok hmix _ _ _ _ ?_
            simp only [sz.down, ↓reduceIte, Nat.reduceEqDiff, Nat.reduceLT, reduceCtorEq, hP, k6, k7, k9, k43, k44, kd, eb]
            have hin : i = l.length := by omega
            rw [List.take_of_length_le (by omega)] at i1
            exact .inl ⟨S', L', i1, by omega, hnx, hln, x1, hs2, kk⟩
      · refine awp_seq (vc_ok hmix _ _ _ _ ?_)
        simp only [sz.down, ↓reduceIte, Nat.reduceEqDiff, Nat.reduceLT, TEP, hP]
        refine awp_block ?_
        refine awp_loop (fun m f1 h1 => ∃ (w : Nat) (nx : List (Int × Int)), m + w = n ∧ nx.Perm ((List.range w).map fun i => (((i + 1 : Nat) : Int), 0)) ∧ HS n (max budget 0) lay0 (nxS (initS n []) nx) h1 ∧
            f1.t 0 = cls l ∧ f1.t 1 = vi n ∧ f1.t 6 = .lp 0 0 ∧ f1.t 7 = .lp 1 0 ∧ f1.t 9 = .lp 5 0 ∧ f1.t 10 = vi ((w + 1 : Nat) : Int) ∧ f1.d = [] ∧ DX lay0 f1.k) n
          ⟨0, [], by omega, List.Perm.refl _, hs0, by simp only [sz.down, ↓reduceIte, reduceCtorEq], by simp only [sz.down, ↓reduceIte, Nat.reduceEqDiff], by simp only [sz.down, ↓reduceIte, Nat.reduceEqDiff], by simp only [sz.down, ↓reduceIte, Nat.reduceEqDiff], by simp only [sz.down, ↓reduceIte, Nat.reduceEqDiff], by simp only [sz.down, ↓reduceIte]; try rfl, by simp only [sz.down]; try rfl, DX.none _⟩ ?_
        rintro m f1 h1 ⟨w, nx, hm, hperm, hs1, g0, g1, g6, g7, g9, g10, gd, gk⟩
        have hb1 := hbox (LX.refl _ _) hs1
        have hnl : nx.length = w := by have := hperm.length_eq; simpa using this
        by_cases hw : w < n
        · have eb : decide (((w + 1 : Nat) : Int) ≤ (n : Int)) = true := by rw [decide_eq_true_eq]; omega
          have hw2 : IntKind.i64.wrap (((w + 1 : Nat) : Int) + 1) = ((w + 1 + 1 : Nat) : Int) := by rw [wrap64 (by omega) (by omega)]; omega
          refine vc_ok hmix _ _ _ _ ?_
          simp only [sz.down, ↓reduceIte, Nat.reduceEqDiff, Nat.reduceLT, Nat.reduceLeDiff, Nat.reduceAdd, tis, ens, hP, g1, g9, g10, eb, hb1]
          refine ⟨by decide, by decide, hT (Push_calls hs1 (by show nx.length ≤ _; omega) ((w + 1 : Nat) : Int) 0 fun nx2 h2 p q1 q2 q3 q4 => ?_)⟩
          have pz : ∀ k, k ≠ 8 → p k = false := fun k hk => by
            cases e : p k with
            | false => rfl
            | true => exact absurd (q4 k e) hk
          have z0 := pz 0 (by decide)
          have z1 := pz 1 (by decide)
          have z5 := pz 5 (by decide)
          simp only [sz.down, ↓reduceIte, Nat.reduceEqDiff, Nat.reduceLT, callK_p, hP, g10, gd, hw2]
          refine .inl ⟨m - 1, by omega, w + 1, nx2, by omega, ?_, q2, by simp only [sz.down, ↓reduceIte, reduceCtorEq, g0], by simp only [sz.down, ↓reduceIte, Nat.reduceEqDiff, g1], by simp only [sz.down, ↓reduceIte, Nat.reduceEqDiff, g6, z0], by simp only [sz.down, ↓reduceIte, Nat.reduceEqDiff, g7, z1], by simp only [sz.down, ↓reduceIte, Nat.reduceEqDiff, g9, z5], by simp only [sz.down, ↓reduceIte], by simp only [sz.down, gd], gk.or fun q r hq hpq => ?_⟩
          · rw [List.range_succ, List.map_append]
            exact q1.trans (hperm.append_right _)
          · have := q4 q hpq
            subst this
            cases hq; exact .inr (.inr (.inl rfl))
        · have eb : decide (((w + 1 : Nat) : Int) ≤ (n : Int)) = false := by rw [decide_eq_false_iff_not]; omega
          refine vc_ok hmix _ _ _ _ ?_
          simp only [sz.down, ↓reduceIte, Nat.reduceEqDiff, Nat.reduceLT, reduceCtorEq, hP, g0, g1, g6, g7, g9, g10, gd, eb]
          have hwn : w = n := by omega
          subst hwn
          exact ⟨nx, hperm, hs1, gk⟩
    · have eb : (chk l vars != 0) = true := by simp [hz]
      simp only [sz.down, ↓reduceIte, Nat.reduceEqDiff, Nat.reduceLT, Nat.reduceAdd, reduceCtorEq, TEP, tis, eb]
      refine ⟨_, .inl ⟨hz, rfl⟩, ?_⟩
      exact Reif.tup (Reifs.cons (Reif.agg (Reifs.cons (Reif.dat rfl) (Reifs.cons Reif.nils (Reifs.cons (Reif.dat rfl) (Reifs.cons Reif.nils Reifs.nil))))) (Reifs.cons (Reif.dat rfl) Reifs.nil))
  · have h9 := fun R => fnPost_ok (e := TE) rfl (fn := Try.f9) (R := R) (ok := ok) (pl := pl0) (w := w0)
    simp only [Try.results9, nts] at h9
    exact h9 _
end

end Go.Proofs.Ytajcfppemkdomaa
