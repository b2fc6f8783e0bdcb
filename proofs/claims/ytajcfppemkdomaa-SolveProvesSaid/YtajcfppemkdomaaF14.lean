/- Functions of the program, part 14. -/
import Derived.Test.YtajcfppemkdomaaF02
import Derived.Test.YtajcfppemkdomaaA9
set_option linter.unusedVariables false
set_option linter.unusedSimpArgs false
set_option linter.unnecessarySimpa false
namespace Go.Proofs.Ytajcfppemkdomaa
open Go Go.Proofs Go.Abs Go.RowKit

/-- With a literal that holds. -/
def letR (on : Cl) (a : Int) : Cl := if a < 0 then on.set (-a).toNat (-1) else on.set a.toNat 1

theorem splice_set {on : Cl} {i : Nat} {x : Int} (h : i < on.length) : List.take i (on.map vi) ++ [vi x] ++ List.drop (i + 1) (on.map vi) = (on.set i x).map vi := by
  rw [List.set_eq_take_append_cons_drop, if_pos h, List.map_append, List.map_cons, ← List.map_take, ← List.map_drop, List.append_assoc, List.singleton_append]

theorem ev_letr (on : Cl) (a : Int) (hn : on.length ≤ 1000000) (h1 : -(on.length : Int) < a) (h2 : a < on.length) : Ev TE 76 [ints on, vi a] (ints (letR on a)) := by
  have hM : maxLen = 9223372036854775807 := rfl
  unfold letR
  refine Ev.of_awp Try.func76 rfl (by simp [nts]) (vc_ok mixed _ _ _ _ ?_)
  simp only [sz.down, ↓reduceIte, Nat.reduceEqDiff, Nat.reduceLT, Int.reduceNeg, reduceCtorEq, TEP, tis, nts, Try.results76, allOne_vi]
  refine ⟨⟨by omega, by omega⟩, vcB.mk (fun hc => ?_) (fun hc => ?_)⟩
  · have hc : a < 0 := by simpa using hc
    have e1 : IntKind.i64.wrap (0 - a) = -a := by rw [wrapn (by omega) (by omega)]; omega
    rw [if_pos hc]
    simp only [sz.down, ↓reduceIte, Nat.reduceEqDiff, Nat.reduceLT, Int.reduceNeg, TEP, tis, e1, Nat.mul_one]
    rw [splice_set (by omega)]
    exact ⟨by omega, by omega, Reif.ls rfl (Reifs.dat (dats_vi _)) (fit_vi _) (flat_vi _) (by simp)⟩
  · have hc : ¬ a < 0 := by simpa using hc
    rw [if_neg hc]
    simp only [sz.down, ↓reduceIte, Nat.reduceEqDiff, Nat.reduceLT, TEP, tis, Nat.mul_one]
    rw [splice_set (by omega)]
    exact ⟨by omega, by omega, Reif.ls rfl (Reifs.dat (dats_vi _)) (fit_vi _) (flat_vi _) (by simp)⟩

/-- Of a clause the literals that are not turned ones of those that hold, each once. -/
def leftS (on : Cl) : Cl → Cl → Cl
  | out, [] => out
  | out, a :: c => leftS on (if (out.contains a || hld on (-a)) = true then out else out ++ [a]) c
def leftR (on c : Cl) : Cl := leftS on [] c

theorem contains_take {l : Cl} {k : Nat} (h : k < l.length) (a : Int) : (l.take (k + 1)).contains a = ((l.take k).contains a || (l[k] == a)) := by
  rw [Bool.eq_iff_iff]
  simp only [Bool.or_eq_true, List.contains_iff_mem, beq_iff_eq]
  rw [List.take_add_one, List.mem_append]
  simp only [List.getElem?_eq_getElem h, Option.toList_some, List.mem_singleton]
  constructor
  · rintro (h | rfl)
    · exact .inl h
    · exact .inr rfl
  · rintro (h | rfl)
    · exact .inl h
    · exact .inr rfl
theorem castz0 : ((0 : Nat) : Int) = 0 := rfl
theorem leftS_app (on : Cl) : ∀ (c c' out : Cl), leftS on out (c ++ c') = leftS on (leftS on out c) c'
  | [], c', out => rfl
  | a :: c, c', out => by
    rw [List.cons_append]
    show leftS on _ (c ++ c') = leftS on (leftS on _ c) c'
    exact leftS_app on c c' _

theorem leftS_succ {on c : Cl} {i : Nat} (h : i < c.length) : leftS on [] (c.take (i + 1)) = if ((leftS on [] (c.take i)).contains c[i] || hld on (-c[i])) = true then leftS on [] (c.take i) else leftS on [] (c.take i) ++ [c[i]] := by
  have : c.take (i + 1) = c.take i ++ [c[i]] := by rw [List.take_add_one]; simp [h]
  rw [this, leftS_app]
  rfl

theorem leftS_len (on : Cl) : ∀ (c out : Cl), (leftS on out c).length ≤ out.length + c.length
  | [], out => Nat.le_refl _
  | a :: c, out => by
    show (leftS on (if (out.contains a || hld on (-a)) = true then out else out ++ [a]) c).length ≤ _
    refine Nat.le_trans (leftS_len on c _) ?_
    split <;> simp <;> omega

set_option maxRecDepth 100000 in
set_option maxHeartbeats 2000000 in
theorem ev_left (on c : Cl) (hn : on.length ≤ 1000000) (hcl : c.length ≤ 1000000) (hc : ∀ a ∈ c, -(on.length : Int) < a ∧ a < on.length) : Ev TE 80 [ints on, ints c] (ints (leftR on c)) := by
  have hM : maxLen = 9223372036854775807 := rfl
  refine Ev.of_awp Try.func80 rfl (by simp [nts]) (vc_ok mixed _ _ _ _ ?_)
  simp only [sz.down, Nat.reduceLT, TEP, nts, Try.results80]
  refine awp_loop (fun m f h => ∃ i, m + i = c.length ∧ f.t 0 = ints on ∧ f.t 1 = ints c ∧ f.t 6 = vi i ∧ f.d = [] ∧ RowV 0 ((leftS on [] (c.take i)).map vi) (f.t 5) [] h) c.length ⟨0, by simp, rfl, rfl, rfl, rfl, .inl ⟨rfl, rfl, rfl⟩⟩ ?_
  rintro m f h ⟨i, hm, h0, h1, h6, hd, hrow⟩
  refine vc_ok mixed _ _ _ _ ?_
  simp only [sz.down, ↓reduceIte, Nat.reduceEqDiff, Nat.reduceLT, TEP, tis, h1, h6]
  refine vcB.mk (fun hlt => ?_) (fun hlt => ?_)
  · simp only [decide_eq_true_eq, Int.ofNat_lt] at hlt
    have hrg := hc _ (List.getElem_mem hlt)
    have hneg : IntKind.i64.wrap (0 - c[i]) = -c[i] := by rw [wrapn (by omega) (by omega)]; omega
    have hsucc := leftS_succ (on := on) hlt
    have hll : (leftS on [] (c.take i)).length ≤ i := by
      have := leftS_len on (c.take i) []
      rw [List.length_take] at this
      simp at this; omega
    generalize hout : leftS on [] (c.take i) = out at hrow hsucc hll
    simp only [sz.down, Nat.reduceLT, TEP]
    refine awp_loop (fun m2 f h => ∃ k, m2 + k = out.length ∧ f.t 0 = ints on ∧ f.t 1 = ints c ∧ f.t 6 = vi i ∧ f.t 7 = .bool ((out.take k).contains c[i]) ∧ f.t 8 = vi k ∧ f.d = [] ∧ RowV 0 (out.map vi) (f.t 5) [] h) out.length ⟨0, by simp, h0, h1, h6, rfl, rfl, hd, hrow⟩ ?_
    rintro m2 f h ⟨k, hm2, h0, h1, h6, h7, h8, hd, hrow⟩
    rcases hrow with ⟨ho, hv, rfl⟩ | ⟨hv, rfl⟩
    · have ho : out = [] := by simpa using ho
      subst ho
      have hk : k = 0 := by simp at hm2; omega
      subst hk
      have h7 : f.t 7 = .bool false := h7
      have hsucc : leftS on [] (c.take (i + 1)) = if hld on (-c[i]) = true then [] else [c[i]] := by rw [hsucc]; rfl
      refine vc_ok mixed _ _ _ _ ?_
      simp only [sz.down, ↓reduceIte, Nat.reduceEqDiff, Nat.reduceLT, Int.reduceLT, reduceCtorEq, TEP, tis, ens, h0, h1, h6, h7, h8, hv, getI hlt, hneg, castz0]
      refine ⟨⟨by omega, by omega⟩, ACalls.ev (ev_hold on (-c[i]) (by omega) (by omega)) (by simp only [V.dats, V.dat, Bool.and_self]) ?_⟩
      simp only [sz.down, ↓reduceIte, Nat.reduceEqDiff, Nat.reduceLT, reduceCtorEq, TEP]
      refine vcB.mk (fun hb => ?_) (fun hb => ?_)
      · rw [if_neg (by simpa using hb)] at hsucc
        simp only [sz.down, ↓reduceIte, Nat.reduceEqDiff, Nat.reduceLT, Nat.reduceLeDiff, reduceCtorEq, Nat.reduceMul, TEP, tis, h1, h6, hv, getI hlt, wrap_succ (show i < maxLen by omega)]
        exact ⟨⟨by omega, by omega⟩, ⟨rfl, by decide⟩, by omega, .inl ⟨m - 1, by omega, i + 1, by omega, h0, h1, rfl, hd, by rw [hsucc]; exact .inr ⟨rfl, rfl⟩⟩⟩
      · rw [if_pos (by simpa using hb)] at hsucc
        simp only [sz.down, ↓reduceIte, Nat.reduceEqDiff, Nat.reduceLT, TEP, h6, wrap_succ (show i < maxLen by omega)]
        exact .inl ⟨m - 1, by omega, i + 1, by omega, h0, h1, rfl, hd, by rw [hsucc]; exact .inl ⟨rfl, hv, rfl⟩⟩
    · refine vc_ok mixed _ _ _ _ ?_
      simp only [sz.down, ↓reduceIte, Nat.reduceEqDiff, Nat.reduceLT, TEP, tis, h8, hv]
      refine vcB.mk (fun hk => ?_) (fun hk => ?_)
      · simp only [decide_eq_true_eq, Int.ofNat_lt] at hk
        have htk := contains_take hk c[i]
        have hkk : (out.map vi).getD (k * 1) .any = vi out[k] := by rw [Nat.mul_one]; exact getI hk _
        cases hB : (out.take k).contains c[i] with
        | true =>
          rw [hB] at h7 htk
          simp only [sz.down, ↓reduceIte, Nat.reduceEqDiff, Nat.reduceLT, reduceCtorEq, TEP, tis, h1, h6, h7, h8, hv, getI hlt, hkk]
          refine ⟨by decide +kernel, .inl ⟨m2 - 1, by omega, k + 1, by omega, by simp only [sz.down, ↓reduceIte, reduceCtorEq, h0], by simp only [sz.down, ↓reduceIte, Nat.reduceEqDiff, h1], by simp only [sz.down, ↓reduceIte, Nat.reduceEqDiff, h6], by simp only [sz.down, ↓reduceIte, Nat.reduceEqDiff, htk], by simp only [sz.down, ↓reduceIte, wrap_succ (show k < maxLen by omega)], by simp only [sz.down, hd], .inr ⟨by simp only [sz.down, ↓reduceIte, Nat.reduceEqDiff, hv], rfl⟩⟩⟩
        | false =>
          rw [hB] at h7 htk
          simp only [sz.down, ↓reduceIte, Nat.reduceEqDiff, Nat.reduceLT, TEP, tis, h1, h6, h7, h8, hv, getI hlt, hkk]
          refine ⟨by decide +kernel, ⟨by omega, by omega⟩, by omega, ⟨by omega, by omega⟩, .inl ⟨m2 - 1, by omega, k + 1, by omega, by simp only [sz.down, ↓reduceIte, reduceCtorEq, h0], by simp only [sz.down, ↓reduceIte, Nat.reduceEqDiff, h1], by simp only [sz.down, ↓reduceIte, Nat.reduceEqDiff, h6], by simp only [sz.down, ↓reduceIte, Nat.reduceEqDiff, htk], by simp only [sz.down, ↓reduceIte, wrap_succ (show k < maxLen by omega)], by simp only [sz.down, hd], .inr ⟨by simp only [sz.down, ↓reduceIte, Nat.reduceEqDiff, hv], rfl⟩⟩⟩
      · simp only [decide_eq_false_iff_not, Int.ofNat_lt] at hk
        rw [List.take_of_length_le (by omega)] at h7
        cases hB : out.contains c[i] with
        | true =>
          rw [hB] at h7 hsucc
          simp only [sz.down, ↓reduceIte, Nat.reduceEqDiff, Nat.reduceLT, reduceCtorEq, TEP, tis, h0, h1, h6, h7, getI hlt, hneg]
          have hsucc : leftS on [] (c.take (i + 1)) = out := by rw [hsucc]; rfl
          refine ⟨.bool true, ?_⟩
          simp only [sz.down, ↓reduceIte, Nat.reduceEqDiff, Nat.reduceLT, TEP, h6, wrap_succ (show i < maxLen by omega)]
          exact .inl ⟨m - 1, by omega, i + 1, by omega, by simp only [sz.down, ↓reduceIte, reduceCtorEq, h0], by simp only [sz.down, ↓reduceIte, Nat.reduceEqDiff, h1], by simp only [sz.down, ↓reduceIte], by simp only [sz.down, hd], by rw [hsucc]; exact .inr ⟨by simp only [sz.down, ↓reduceIte, Nat.reduceEqDiff, hv], rfl⟩⟩
        | false =>
          rw [hB] at h7 hsucc
          simp only [sz.down, ↓reduceIte, Nat.reduceEqDiff, Nat.reduceLT, reduceCtorEq, TEP, tis, ens, h0, h1, h6, h7, getI hlt, hneg]
          have hsucc : leftS on [] (c.take (i + 1)) = if hld on (-c[i]) = true then out else out ++ [c[i]] := by rw [hsucc]; rfl
          refine ⟨⟨by omega, by omega⟩, ACalls.ev (ev_hold on (-c[i]) (by omega) (by omega)) (by simp only [V.dats, V.dat, Bool.and_self]) ?_⟩
          simp only [sz.down, ↓reduceIte, Nat.reduceEqDiff, Nat.reduceLT, reduceCtorEq, TEP]
          refine vcB.mk (fun hb => ?_) (fun hb => ?_)
          · rw [if_neg (by simpa using hb)] at hsucc
            simp only [sz.down, ↓reduceIte, Nat.reduceEqDiff, Nat.reduceLT, reduceCtorEq, Nat.reduceMul, TEP, tis, h1, h6, hd, hv, getI hlt, wrap_succ (show i < maxLen by omega)]
            exact ⟨⟨by omega, by omega⟩, ⟨rfl, by decide⟩, ⟨by omega, by omega, by omega⟩, .inl ⟨m - 1, by omega, i + 1, by omega, by simp only [sz.down, ↓reduceIte, reduceCtorEq, h0], by simp only [sz.down, ↓reduceIte, Nat.reduceEqDiff, h1], by simp only [sz.down, ↓reduceIte], by simp only [sz.down, hd], by rw [hsucc, List.map_append]; exact .inr ⟨by simp only [sz.down, ↓reduceIte, Nat.reduceEqDiff], by simp only [sz.down, drops_vi]⟩⟩⟩
          · rw [if_pos (by simpa using hb)] at hsucc
            simp only [sz.down, ↓reduceIte, Nat.reduceEqDiff, Nat.reduceLT, TEP, h6, wrap_succ (show i < maxLen by omega)]
            exact .inl ⟨m - 1, by omega, i + 1, by omega, by simp only [sz.down, ↓reduceIte, reduceCtorEq, h0], by simp only [sz.down, ↓reduceIte, Nat.reduceEqDiff, h1], by simp only [sz.down, ↓reduceIte], by simp only [sz.down, hd], by rw [hsucc]; exact .inr ⟨by simp only [sz.down, ↓reduceIte, Nat.reduceEqDiff, hv], rfl⟩⟩
  · simp only [decide_eq_false_iff_not, Int.ofNat_lt] at hlt
    rw [List.take_of_length_le (by omega)] at hrow
    obtain ⟨hs1, hs2⟩ := hrow.scv
    simp only [sz.down, ↓reduceIte, Nat.reduceEqDiff, Nat.reduceLT, TEP, hd]
    exact hrow.reifI rfl

/-- What one clause lets hold. -/
def oneR (h : Cl × Bool) (c : Cl) : Cl × Bool := match leftR h.1 c with
  | [] => (h.1, true)
  | [x] => if hld h.1 x = true then h else (letR h.1 x, h.2)
  | _ => h

end Go.Proofs.Ytajcfppemkdomaa

set_option linter.unusedVariables false
set_option linter.unusedSimpArgs false
set_option linter.unnecessarySimpa false
namespace Go.Proofs.Ytajcfppemkdomaa
open Go Go.Proofs Go.Abs Go.RowKit

def planLQ : Plan := .take 0 <| .take 2 <| .alt 1 (.one 3 <| .one 4 <| .one 5 <| .take 6 <| .one 7 <| .fin) (.one 3 (.alt 1 (.one 4 <| .one 5 <| .take 6 <| .one 7 <| .fin) (.one 4 (.one 1 <| .one 5 <| .take 6 <| .one 7 <| .fin))))

theorem leftS_mem (on : Cl) : ∀ (c out : Cl) {x : Int}, x ∈ leftS on out c ↔ x ∈ out ∨ (x ∈ c ∧ hld on (-x) = false)
  | [], out, x => by simp [leftS]
  | a :: c, out, x => by
    show x ∈ leftS on (if (out.contains a || hld on (-a)) = true then out else out ++ [a]) c ↔ _
    rw [leftS_mem]
    split
    · rename_i h
      simp only [Bool.or_eq_true, List.contains_iff_mem] at h
      constructor
      · rintro (h1 | ⟨h1, h2⟩)
        · exact .inl h1
        · exact .inr ⟨List.mem_cons_of_mem _ h1, h2⟩
      · rintro (h1 | ⟨h1, h2⟩)
        · exact .inl h1
        · rcases List.mem_cons.1 h1 with rfl | h1
          · rcases h with h | h
            · exact .inl h
            · rw [h] at h2; cases h2
          · exact .inr ⟨h1, h2⟩
    · rename_i h
      simp only [Bool.or_eq_true, List.contains_iff_mem, not_or, Bool.not_eq_true] at h
      constructor
      · rintro (h1 | ⟨h1, h2⟩)
        · rcases List.mem_append.1 h1 with h1 | h1
          · exact .inl h1
          · have : x = a := by simpa using h1
            subst this
            exact .inr ⟨List.mem_cons_self, h.2⟩
        · exact .inr ⟨List.mem_cons_of_mem _ h1, h2⟩
      · rintro (h1 | ⟨h1, h2⟩)
        · exact .inl (List.mem_append_left _ h1)
        · rcases List.mem_cons.1 h1 with rfl | h1
          · exact .inl (List.mem_append_right _ (by simp))
          · exact .inr ⟨h1, h2⟩
theorem left_mem {on c : Cl} {x : Int} : x ∈ leftR on c ↔ x ∈ c ∧ hld on (-x) = false := by
  unfold leftR
  rw [leftS_mem]
  simp

set_option maxRecDepth 100000 in
set_option maxHeartbeats 2000000 in
theorem ev_one (on : Cl) (bad : Bool) (c : Cl) (hn : on.length ≤ 1000000) (hcl : c.length ≤ 1000000) (hc : ∀ a ∈ c, -(on.length : Int) < a ∧ a < on.length) :
    Ev TE 77 [.agg [ints on, .bool bad], ints c] (.agg [ints (oneR (on, bad) c).1, .bool (oneR (on, bad) c).2]) := by
  have hM : maxLen = 9223372036854775807 := rfl
  have hx := fun x (h : x ∈ leftR on c) => hc x (left_mem.1 h).1
  refine Ev.of_awp Try.func77 rfl (by simp [nts]) (vc_ok mixed _ _ _ _ ?_)
  simp only [sz.down, ↓reduceIte, Nat.reduceEqDiff, Nat.reduceLT, Nat.reduceLeDiff, Nat.reduceAdd, TEP, tis, ens, nts, Try.results77]
  refine ACalls.ev (ev_left on c hn hcl hc) (by simp only [V.dats, V.dat, Bool.and_self]) ?_
  unfold oneR
  generalize leftR on c = L at hx
  match L, hx with
  | [], _ =>
    simp only [sz.down, ↓reduceIte, Nat.reduceEqDiff, Nat.reduceLT, Nat.reduceLeDiff, Nat.reduceAdd, Int.reduceLT, Int.reduceLE, Int.reduceBEq, TEP, tis, castz0]
    refine ⟨by decide +kernel, vcEv.no ?_⟩
    simp only [sz.down, ↓reduceIte, Nat.reduceEqDiff, Nat.reduceLT, Nat.reduceAdd, reduceCtorEq, TEP, tis]
    exact .agg (.dat (by simp only [V.dats, V.dat, Bool.and_self]))
  | [x], hx =>
    have hx := hx x (by simp)
    have e1 : (((1 : Nat) : Int) == 0) = false := rfl
    have e2 : (((1 : Nat) : Int) == 1) = true := rfl
    simp only [sz.down, ↓reduceIte, Nat.reduceEqDiff, Nat.reduceLT, Nat.reduceLeDiff, Nat.reduceAdd, Int.reduceLE, TEP, tis, e1, e2]
    refine ⟨by decide +kernel, ?_⟩
    refine ⟨by omega, vcEv.mk (ev_hold on x (by omega) (by omega)) rfl (by simp only [V.dats, V.dat, Bool.and_self]) ?_⟩
    cases hB : hld on x with
    | true =>
      simp only [sz.down, ↓reduceIte, Nat.reduceEqDiff, Nat.reduceLT, Nat.reduceAdd, reduceCtorEq, TEP, tis]
      exact .agg (.dat (by simp only [V.dats, V.dat, Bool.and_self]))
    | false =>
      simp only [sz.down, ↓reduceIte, Nat.reduceEqDiff, Nat.reduceLT, reduceCtorEq, TEP]
      refine awp_plan mixed planLQ (fun f' h' => f'.t 2 = .lp 0 0 ∧ f'.t 4 = .lp 1 0 ∧ f'.d = [] ∧ h' = [O.cells [ints (letR on x), V.bool bad], O.cells [V.nils, V.bool false]]) (by decide +kernel) (by decide +kernel) ?_ ?_
      · simp only [sz.down, ↓reduceIte, Nat.reduceEqDiff, Nat.reduceLT, Nat.reduceLeDiff, Nat.reduceAdd, Int.reduceLE, TEP, tis, ens, planLQ]
        refine ⟨⟨by omega, ?_⟩, by omega, ?_, ?_⟩
        · refine ACalls.ev (ev_letr on x hn (by omega) (by omega)) (by simp only [V.dats, V.dat, Bool.and_self]) ?_
          simp only [sz.down, ↓reduceIte, Nat.reduceEqDiff, Nat.reduceLT, Nat.reduceLeDiff, Nat.reduceAdd, TEP, tis]
        · refine ACalls.ev (ev_letr on x hn (by omega) (by omega)) (by simp only [V.dats, V.dat, Bool.and_self]) ?_
          simp only [sz.down, ↓reduceIte, Nat.reduceEqDiff, Nat.reduceLT, Nat.reduceLeDiff, Nat.reduceAdd, TEP, tis]
        · refine ACalls.ev (ev_letr on x hn (by omega) (by omega)) (by simp only [V.dats, V.dat, Bool.and_self]) ?_
          simp only [sz.down, ↓reduceIte, Nat.reduceEqDiff, Nat.reduceLT, Nat.reduceLeDiff, Nat.reduceAdd, TEP, tis]
      · rintro f h ⟨h2, h4, hd, rfl⟩
        simp only [sz.down, ↓reduceIte, Nat.reduceEqDiff, Nat.reduceLT, Nat.reduceAdd, reduceCtorEq, TEP, tis, h2, h4, hd]
        exact .agg (.dat (by simp only [V.dats, V.dat, Bool.and_self]))
  | x :: y :: L, _ =>
    have e1 : (((L.length + 2 : Nat) : Int) == 0) = false := by simp; omega
    have e2 : (((L.length + 2 : Nat) : Int) == 1) = false := by simp; omega
    simp only [sz.down, ↓reduceIte, Nat.reduceEqDiff, Nat.reduceLT, Nat.reduceLeDiff, Nat.reduceAdd, Int.reduceLE, TEP, tis, e1, e2]
    refine ⟨by decide +kernel, vcEv.no ?_⟩
    simp only [sz.down, ↓reduceIte, Nat.reduceEqDiff, Nat.reduceLT, Nat.reduceAdd, reduceCtorEq, TEP, tis]
    exact .agg (.dat (by simp only [V.dats, V.dat, Bool.and_self]))

end Go.Proofs.Ytajcfppemkdomaa

set_option linter.unusedVariables false
set_option linter.unusedSimpArgs false
set_option linter.unnecessarySimpa false
namespace Go.Proofs.Ytajcfppemkdomaa
open Go Go.Proofs Go.Abs Go.RowKit

def sg (a : Int) : Int := if a < 0 then -1 else 1
theorem sg_ne (a : Int) : sg a ≠ 0 := by unfold sg; split <;> omega
theorem hld_iff {on : Cl} {a : Int} : hld on a = true ↔ on.getD a.natAbs 0 = sg a := by
  unfold hld sg
  split
  · rename_i h
    have : (-a).toNat = a.natAbs := by omega
    rw [this]; simp
  · rename_i h
    have : a.toNat = a.natAbs := by omega
    rw [this]; simp
theorem letR_eq (on : Cl) (a : Int) : letR on a = on.set a.natAbs (sg a) := by
  unfold letR sg
  split
  · rename_i h
    have : (-a).toNat = a.natAbs := by omega
    rw [this]
  · rename_i h
    have : a.toNat = a.natAbs := by omega
    rw [this]

theorem getD_set {on : Cl} {i j : Nat} {x : Int} (h : i < on.length) : (on.set i x).getD j 0 = if i = j then x else on.getD j 0 := by
  rw [List.getD_eq_getElem?_getD, List.getD_eq_getElem?_getD, List.getElem?_set]
  split
  · rename_i e
    simp [h]
  · rfl

theorem hld_self {on : Cl} {a : Int} (h : a.natAbs < on.length) : hld (letR on a) a = true := by
  rw [hld_iff, letR_eq, getD_set h, if_pos rfl]
theorem hld_let {on : Cl} {a b : Int} (h : a.natAbs < on.length) (hb : hld (letR on a) b = true) : b = a ∨ hld on b = true ∨ (b = 0 ∧ a = 0) := by
  rw [hld_iff, letR_eq, getD_set h] at hb
  split at hb
  · rename_i e
    left
    unfold sg at hb
    split at hb <;> split at hb <;> omega
  · exact .inr (.inl (hld_iff.2 hb))
theorem hld_keep {on : Cl} {a b : Int} (h : a.natAbs < on.length) (h0 : on.getD a.natAbs 0 = 0) (hb : hld on b = true) : hld (letR on a) b = true := by
  rw [hld_iff] at hb ⊢
  rw [letR_eq, getD_set h]
  split
  · rename_i e
    rw [← e, h0] at hb
    exact absurd hb.symm (sg_ne b)
  · exact hb
theorem hld_stay {on : Cl} {a b : Int} (h : a.natAbs < on.length) (h0 : hld on (-a) = false) (ha : a ≠ 0) (hb : hld on b = true) : hld (letR on a) b = true := by
  rw [hld_iff] at hb ⊢
  rw [letR_eq, getD_set h]
  split
  · rename_i e
    have hba : b ≠ -a := by
      rintro rfl
      rw [← hld_iff, h0] at hb
      cases hb
    unfold sg
    split <;> split <;> omega
  · exact hb

structure GoodR (l : List Cl) (given : Cl) (vars : Nat) (g on : Cl) (bad : Bool) : Prop where
  len : on.length = vars + 1
  zer : on.getD 0 0 = 0
  tri : ∀ x ∈ on, x = -1 ∨ x = 0 ∨ x = 1
  der : ∀ a, a ≠ 0 → hld on a = true → Der l given a
  isb : bad = true → Bad l given
  all : bad = false → ∀ a ∈ g, hld on a = true

theorem goodR_first (l : List Cl) (given : Cl) (vars : Nat) : GoodR l given vars [] (List.replicate (vars + 1) 0) false := by
  have hz : ∀ j, (List.replicate (vars + 1) (0 : Int)).getD j 0 = 0 := by
    intro j
    rw [List.getD_eq_getElem?_getD, List.getElem?_replicate]
    split <;> rfl
  refine ⟨by simp, hz 0, fun x hx => .inr (.inl (List.eq_of_mem_replicate hx)), fun a _ h => ?_, (fun h => by cases h), fun _ a h => by cases h⟩
  rw [hld_iff, hz] at h
  exact absurd h.symm (sg_ne a)

theorem letR_len (on : Cl) (a : Int) : (letR on a).length = on.length := by rw [letR_eq]; simp
theorem letR_tri {on : Cl} {a : Int} (h : ∀ x ∈ on, x = -1 ∨ x = 0 ∨ x = 1) : ∀ x ∈ letR on a, x = -1 ∨ x = 0 ∨ x = 1 := by
  intro x hx
  rw [letR_eq] at hx
  rcases List.mem_or_eq_of_mem_set hx with hx | rfl
  · exact h x hx
  · unfold sg; split <;> simp
theorem letR_zer {on : Cl} {a : Int} (h : a.natAbs < on.length) (ha : a ≠ 0) (hz : on.getD 0 0 = 0) : (letR on a).getD 0 0 = 0 := by
  rw [letR_eq, getD_set h, if_neg (by omega), hz]

/-- One that is given. -/
theorem goodR_let {l : List Cl} {given g on : Cl} {vars : Nat} {bad : Bool} {a : Int} (hg : GoodR l given vars g on bad) (h0 : a ≠ 0) (h1 : a.natAbs ≤ vars) (ha : a ∈ given) :
    GoodR l given vars (g ++ [a]) (letR on a) (bad || hld on (-a)) := by
  have hl := hg.len
  refine ⟨by rw [letR_len, hl], letR_zer (by omega) h0 hg.zer, letR_tri hg.tri, fun b hb h => ?_, fun h => ?_, fun h b hb => ?_⟩
  · rcases hld_let (by omega) h with rfl | h | ⟨_, h⟩
    · exact .start _ ha
    · exact hg.der b hb h
    · exact absurd h h0
  · rw [Bool.or_eq_true] at h
    rcases h with h | h
    · exact hg.isb h
    · exact .inr ⟨a, .start _ ha, hg.der _ (by omega) h⟩
  · rw [Bool.or_eq_false_iff] at h
    rcases List.mem_append.1 hb with hb | hb
    · exact hld_stay (by omega) h.2 h0 (hg.all h.1 b hb)
    · have : b = a := by simpa using hb
      subst this
      exact hld_self (by omega)

def nz (on : Cl) : Nat := on.countP fun x => x != 0

theorem nz_le {on : Cl} {vars : Nat} (hl : on.length = vars + 1) (hz : on.getD 0 0 = 0) : nz on ≤ vars := by
  cases on with
  | nil => simp at hl
  | cons x on =>
    have hx : x = 0 := by simpa using hz
    subst hx
    have h1 : nz (0 :: on) = nz on := by unfold nz; rw [List.countP_cons]; simp
    have h2 : nz on ≤ on.length := List.countP_le_length
    rw [h1]
    simp at hl
    omega
theorem nz_let {on : Cl} {a : Int} (h : a.natAbs < on.length) (h0 : on.getD a.natAbs 0 = 0) : nz (letR on a) = nz on + 1 := by
  unfold nz
  rw [letR_eq, List.countP_set h]
  have e1 : on[a.natAbs] = 0 := by rw [← getD_at (d := 0) h, h0]
  have e2 : (sg a != 0) = true := bne_iff_ne.2 (sg_ne a)
  rw [e1, e2]
  simp

def Closed (on : Cl) (l : List Cl) : Prop := ∀ c ∈ l, oneR (on, false) c = (on, false)
def ProgR (l : List Cl) (n i : Nat) (on : Cl) : Prop := (Closed on (l.take i) ∧ (Closed on l ∨ n ≤ nz on)) ∨ n + 1 ≤ nz on

theorem leftS_nodup (on : Cl) : ∀ (c out : Cl), out.Nodup → (leftS on out c).Nodup
  | [], out, h => h
  | a :: c, out, h => by
    show (leftS on (if (out.contains a || hld on (-a)) = true then out else out ++ [a]) c).Nodup
    refine leftS_nodup on c _ ?_
    split
    · exact h
    · rename_i hh
      simp only [Bool.or_eq_true, List.contains_iff_mem, not_or] at hh
      rw [List.nodup_append]
      refine ⟨h, by simp, ?_⟩
      intro x hx y hy hxy
      simp only [List.mem_singleton] at hy
      subst hy; subst hxy
      exact hh.1 hx

/-- One clause. -/
theorem goodR_one {l : List Cl} {given g on c : Cl} {vars n i : Nat} (hg : GoodR l given vars g on false) (hi : i < l.length) (he : l[i] = c) (hc : ∀ b ∈ c, b ≠ 0 ∧ b.natAbs ≤ vars) (hp : ProgR l n i on) :
    GoodR l given vars g (oneR (on, false) c).1 (oneR (on, false) c).2 ∧ ((oneR (on, false) c).2 = true ∨ ProgR l n (i + 1) (oneR (on, false) c).1) := by
  have hcl : c ∈ l := he ▸ List.getElem_mem hi
  have hlen := hg.len
  have htk : l.take (i + 1) = l.take i ++ [c] := by rw [List.take_add_one]; simp [hi, he]
  have same : oneR (on, false) c = (on, false) → ProgR l n (i + 1) on := by
    intro h
    rcases hp with ⟨h1, h2⟩ | h
    · refine .inl ⟨?_, h2⟩
      intro d hd
      rw [htk] at hd
      rcases List.mem_append.1 hd with hd | hd
      · exact h1 d hd
      · have : d = c := by simpa using hd
        rw [this]; exact h
    · exact .inr h
  have hm := fun x => @left_mem on c x
  have hdone : oneR (on, false) c = match leftR on c with
    | [] => (on, true)
    | [x] => if hld on x = true then (on, false) else (letR on x, false)
    | _ => (on, false) := rfl
  generalize leftR on c = L at hm hdone
  match L, hm, hdone with
  | [], hm, hdone =>
    rw [hdone]
    refine ⟨⟨hg.len, hg.zer, hg.tri, hg.der, fun _ => .inl ⟨c, hcl, fun b hb => ?_⟩, (fun h => by cases h)⟩, .inl rfl⟩
    have h1 : ¬ (b ∈ c ∧ hld on (-b) = false) := fun h => by have := (hm b).2 h; cases this
    have h2 : hld on (-b) = true := by
      cases h : hld on (-b)
      · exact absurd ⟨hb, h⟩ h1
      · rfl
    exact hg.der _ (by have := (hc b hb).1; omega) h2
  | [x], hm, hdone =>
    obtain ⟨hx1, hx2⟩ := (hm x).1 (by simp)
    obtain ⟨hx3, hx4⟩ := hc x hx1
    by_cases hh : hld on x = true
    · have hd2 : oneR (on, false) c = (on, false) := by rw [hdone]; exact if_pos hh
      rw [hd2]
      exact ⟨hg, .inr (same hd2)⟩
    · have hd2 : oneR (on, false) c = (letR on x, false) := by rw [hdone]; exact if_neg hh
      have hzero : on.getD x.natAbs 0 = 0 := by
        have hlt : x.natAbs < on.length := by omega
        have h1 := hg.tri _ (List.getElem_mem hlt)
        have h2 : hld on x = true ↔ _ := hld_iff
        have h3 : hld on (-x) = true ↔ _ := hld_iff
        rw [hx2] at h3
        have h4 : (-x).natAbs = x.natAbs := by omega
        rw [h4] at h3
        rw [getD_at hlt] at h2 h3 ⊢
        have h2 : on[x.natAbs] ≠ sg x := fun h => hh (h2.2 h)
        have h3 : on[x.natAbs] ≠ sg (-x) := fun h => by have := h3.2 h; cases this
        unfold sg at h2 h3
        split at h2 <;> split at h3 <;> omega
      rw [hd2]
      refine ⟨⟨by rw [letR_len, hlen], letR_zer (by omega) hx3 hg.zer, letR_tri hg.tri, fun b hb h => ?_, (fun h => by cases h), fun _ b hb => hld_keep (by omega) hzero (hg.all rfl b hb)⟩, .inr (.inr ?_)⟩
      · rcases hld_let (by omega) h with rfl | h | ⟨_, h⟩
        · refine .unit c b hcl hx1 fun d hd hne => ?_
          have h1 : ¬ (d ∈ c ∧ hld on (-d) = false) := fun h => by
            have := (hm d).2 h
            exact hne (by simpa using this)
          have h2 : hld on (-d) = true := by
            cases h : hld on (-d)
            · exact absurd ⟨hd, h⟩ h1
            · rfl
          exact hg.der _ (by have := (hc d hd).1; omega) h2
        · exact hg.der b hb h
        · exact absurd h hx3
      · show n + 1 ≤ nz (letR on x)
        rw [nz_let (by omega) hzero]
        rcases hp with ⟨_, h2 | h2⟩ | h
        · have h5 := h2 c hcl
          rw [hd2] at h5
          have h6 : letR on x = on := congrArg Prod.fst h5
          have h7 := hld_self (on := on) (a := x) (by omega)
          rw [h6] at h7
          exact absurd h7 hh
        · omega
        · omega
  | x :: y :: L, hm, hdone =>
    have hd2 : oneR (on, false) c = (on, false) := hdone
    rw [hd2]
    exact ⟨hg, .inr (same hd2)⟩

structure FinR (l : List Cl) (given : Cl) (vars : Nat) (on : Cl) (bad : Bool) : Prop where
  len : on.length = vars + 1
  zer : on.getD 0 0 = 0
  tri : ∀ x ∈ on, x = -1 ∨ x = 0 ∨ x = 1
  isb : bad = true → Bad l given
  not : bad = false → ¬ Bad l given
  iff : bad = false → ∀ a, hld on a = true ↔ Der l given a

theorem finR_bad {l : List Cl} {given g on : Cl} {vars : Nat} (hg : GoodR l given vars g on true) : FinR l given vars on true :=
  ⟨hg.len, hg.zer, hg.tri, hg.isb, (fun h => by cases h), (fun h => by cases h)⟩

theorem hld_con {on : Cl} {a : Int} (ha : a ≠ 0) (h : hld on a = true) : hld on (-a) = false := by
  cases h2 : hld on (-a)
  · rfl
  · rw [hld_iff] at h h2
    have h4 : (-a).natAbs = a.natAbs := by omega
    rw [h4, h] at h2
    unfold sg at h2
    split at h2 <;> split at h2 <;> omega

theorem finR_closed {l : List Cl} {given on : Cl} {vars : Nat} (hl : ∀ c ∈ l, ∀ b ∈ c, b ≠ 0 ∧ b.natAbs ≤ vars) (hgn : ∀ b ∈ given, b ≠ 0) (hg : GoodR l given vars given on false) (hc : Closed on l) : FinR l given vars on false := by
  have hz : hld on 0 = false := by
    cases h : hld on 0
    · rfl
    · rw [hld_iff] at h
      have := hg.zer
      rw [show (0 : Int).natAbs = 0 from rfl, this] at h
      exact absurd h.symm (sg_ne 0)
  have key : ∀ a, Der l given a → hld on a = true := by
    intro a h
    induction h with
    | start a h => exact hg.all rfl a h
    | unit c a h1 h2 h3 ih =>
      have hcc := hc c h1
      have hm := fun x => @left_mem on c x
      have hsub : ∀ x ∈ leftR on c, x = a := by
        intro x hx
        have hx := (hm x).1 hx
        apply Classical.byContradiction
        intro hne
        have := ih x hx.1 hne
        rw [hx.2] at this
        cases this
      have hdone : oneR (on, false) c = match leftR on c with
        | [] => (on, true)
        | [x] => if hld on x = true then (on, false) else (letR on x, false)
        | _ => (on, false) := rfl
      have hnd : (leftR on c).Nodup := leftS_nodup on c [] (by simp)
      rw [hcc] at hdone
      generalize leftR on c = L at hm hdone hsub hnd
      match L, hm, hdone, hsub, hnd with
      | [], hm, hdone, _, _ => exact absurd (congrArg Prod.snd hdone) (by simp)
      | [x], hm, hdone, hsub, _ =>
        have := hsub x (by simp)
        subst this
        by_cases hh : hld on x = true
        · exact hh
        · have h6 : on = letR on x := by
            have hd3 : (on, false) = if hld on x = true then (on, false) else (letR on x, false) := hdone
            rw [if_neg hh] at hd3
            exact congrArg Prod.fst hd3
          have h7 := hld_self (on := on) (a := x) (by have := (hl c h1 x h2).2; have := hg.len; omega)
          rw [← h6] at h7
          exact absurd h7 hh
      | x :: y :: L, hm, hdone, hsub, hnd =>
        have h5 := hsub x (by simp)
        have h6 := hsub y (by simp)
        subst h5
        subst h6
        simp at hnd
  have kz : ∀ a, Der l given a → a ≠ 0 := by
    intro a h
    rintro rfl
    have := key 0 h
    rw [hz] at this
    cases this
  refine ⟨hg.len, hg.zer, hg.tri, (fun h => by cases h), fun _ => ?_, fun _ a => ⟨fun h => ?_, key a⟩⟩
  · rintro (⟨c, h1, h2⟩ | ⟨a, h1, h2⟩)
    · have hcc := hc c h1
      have hm := fun x => @left_mem on c x
      have hnil : leftR on c = [] := by
        rcases h : leftR on c with _ | ⟨x, L⟩
        · rfl
        · have hx := (hm x).1 (by rw [h]; simp)
          have := key _ (h2 x hx.1)
          rw [hx.2] at this
          cases this
      have hdone : oneR (on, false) c = match leftR on c with
        | [] => (on, true)
        | [x] => if hld on x = true then (on, false) else (letR on x, false)
        | _ => (on, false) := rfl
      rw [hcc, hnil] at hdone
      exact absurd (congrArg Prod.snd hdone) (by simp)
    · have h3 := hld_con (kz a h1) (key a h1)
      rw [key _ h2] at h3
      cases h3
  · refine hg.der a ?_ h
    rintro rfl
    rw [hz] at h
    cases h

end Go.Proofs.Ytajcfppemkdomaa

set_option linter.unusedVariables false
set_option linter.unusedSimpArgs false
set_option linter.unnecessarySimpa false
namespace Go.Proofs.Ytajcfppemkdomaa
open Go Go.Proofs Go.Abs Go.RowKit

def planG : Plan := .take 0 <| .take 2 <| .take 3 <| .alt 1 (.one 4 <| .one 5 <| .one 6 <| .take 7 <| .one 8 <| .fin) (.one 4 (.alt 1 (.one 5 <| .one 6 <| .take 7 <| .one 8 <| .fin) (.one 5 (.one 1 <| .one 6 <| .take 7 <| .one 8 <| .fin))))
def planO : Plan := .take 1 <| .take 2 <| .alt 0 (.one 3 <| .one 4 <| .one 5 <| .one 6 <| .fin) (.one 3 (.alt 0 (.one 4 <| .one 5 <| .one 6 <| .fin) (.one 4 (.one 0 <| .one 5 <| .one 6 <| .fin))))

def zeros (n : Nat) : Cl := List.replicate n 0
theorem zeros_vi (n : Nat) : List.replicate n (vi 0) = (zeros n).map vi := by simp [zeros]

set_option maxRecDepth 100000 in
set_option maxHeartbeats 4000000 in
theorem ev_Reach (l : List Cl) (vars : Nat) (given : Cl) (hv : vars ≤ 20000) (hln : l.length ≤ 1000000) (hcl : ∀ c ∈ l, c.length ≤ 1000000) (hgl : given.length ≤ 1000000) (hl : ∀ c ∈ l, ∀ b ∈ c, b ≠ 0 ∧ b.natAbs ≤ vars) (hg : ∀ b ∈ given, b ≠ 0 ∧ b.natAbs ≤ vars) :
    EvR TE 71 [cls l, vi vars, ints given] fun v => ∃ on bad, v = .agg [ints on, .bool bad] ∧ FinR l given vars on bad := by
  have hM : maxLen = 9223372036854775807 := rfl
  refine EvR.of_calls ?_
  refine ACalls.of_awp Try.func71 rfl (by simp [nts]) (vc_ok mixed _ _ _ _ ?_)
  simp only [sz.down, ↓reduceIte, Nat.reduceEqDiff, Nat.reduceLT, Nat.reduceLeDiff, Nat.reduceAdd, TEP, tis, nts, Try.results71, wrap_succ (show vars < maxLen by omega)]
  refine ⟨⟨by omega, by omega⟩, ?_⟩
  refine awp_giveH (fun i => i == 1) [.cells [.nils, .bool false], .dead, .cells [ints (zeros (vars + 1)), .bool false]] ?_ ?_ (fun i hi => by cases hi) ?_
  · intro i hi
    match i with
    | 0 => exact .inl rfl
    | 1 => simp at hi
    | 2 =>
      refine .inr ⟨_, _, rfl, rfl, .inr ⟨rfl, ?_⟩, .inl rfl, trivial⟩
      have hz : V.drops (fun j => !(j == 1)) (List.replicate (vars + 1) (V.int .i64 0)) = (zeros (vars + 1)).map vi := by rw [show V.int .i64 0 = vi 0 from rfl, zeros_vi, drops_vi]
      exact Reif.ls (by show some (O.cells (V.drops (fun j => !(j == 1)) (List.replicate (vars + 1) (V.int .i64 0)))) = _; rw [hz]) (Reifs.dat (dats_vi _)) (fit_vi _) (flat_vi _) (by simp [zeros])
    | i + 3 => exact .inl rfl
  · intro i o hi ho
    have hi : i = 1 := by simpa using hi
    subst hi
    have : O.dead = o := by simpa using ho
    exact this.symm
  refine awp_loop (fun m f h => ∃ i on bad, m + i = given.length ∧ f.t 0 = cls l ∧ f.t 1 = vi vars ∧ f.t 2 = ints given ∧ f.t 6 = .lp 0 0 ∧ f.t 7 = .lp 2 0 ∧ f.t 8 = vi i ∧ f.d = [] ∧ h = [.cells [.nils, .bool false], .dead, .cells [ints on, .bool bad]] ∧ GoodR l given vars (given.take i) on bad) given.length ⟨0, zeros (vars + 1), false, by simp, rfl, rfl, rfl, rfl, rfl, rfl, rfl, rfl, goodR_first l given vars⟩ ?_
  rintro m f h ⟨i, on, bad, hm, h0, h1, h2, h6, h7, h8, hd, rfl, hgood⟩
  have hlen := hgood.len
  refine vc_ok mixed _ _ _ _ ?_
  simp only [sz.down, ↓reduceIte, Nat.reduceEqDiff, Nat.reduceLT, TEP, tis, h2, h8]
  refine vcB.mk (fun hc => ?_) (fun hc => ?_)
  · simp only [decide_eq_true_eq, Int.ofNat_lt] at hc
    obtain ⟨hg0, hg1⟩ := hg _ (List.getElem_mem hc)
    have hneg : IntKind.i64.wrap (0 - given[i]) = -given[i] := by rw [wrapn (by omega) (by omega)]; omega
    have hnext := goodR_let hgood hg0 hg1 (List.getElem_mem hc)
    have htk : given.take (i + 1) = given.take i ++ [given[i]] := by rw [List.take_add_one]; simp [hc]
    rw [← htk] at hnext
    simp only [sz.down, ↓reduceIte, Nat.reduceEqDiff, Nat.reduceLT, Nat.reduceLeDiff, Nat.reduceAdd, TEP, tis, h2, h7, h8, getI hc, hneg]
    refine ⟨by decide +kernel, ⟨by omega, by omega⟩, vcEv.mk (ev_hold on (-given[i]) (by omega) (by omega)) rfl (by simp only [V.dats, V.dat, Bool.and_self]) ?_⟩
    cases hB : hld on (-given[i]) with
    | true =>
      rw [hB, Bool.or_true] at hnext
      simp only [sz.down, ↓reduceIte, Nat.reduceEqDiff, Nat.reduceLT, Nat.reduceAdd, TEP, tis, h7]
      refine awp_plan mixed planG (fun f' h' => f'.t 0 = cls l ∧ f'.t 1 = vi vars ∧ f'.t 2 = ints given ∧ f'.t 6 = .lp 0 0 ∧ f'.t 7 = .lp 2 0 ∧ f'.t 8 = vi i ∧ f'.d = [] ∧ h' = [.cells [.nils, .bool false], .dead, .cells [ints (letR on given[i]), .bool true]]) (by decide +kernel) (by decide +kernel) ?_ ?_
      · simp only [sz.down, ↓reduceIte, Nat.reduceEqDiff, Nat.reduceLT, Nat.reduceLeDiff, Nat.reduceAdd, TEP, tis, ens, h2, h7, h8, planG, getI hc]
        refine ⟨⟨⟨by omega, by omega⟩, ?_⟩, ⟨by omega, by omega⟩, ?_, ?_⟩
        · refine ACalls.ev (ev_letr on given[i] (by omega) (by omega) (by omega)) (by simp only [V.dats, V.dat, Bool.and_self]) ?_
          simp only [sz.down, ↓reduceIte, Nat.reduceEqDiff, Nat.reduceLT, Nat.reduceLeDiff, Nat.reduceAdd, reduceCtorEq, TEP, tis, h0, h1, h2, h6, h7, h8, hd]
        · refine ACalls.ev (ev_letr on given[i] (by omega) (by omega) (by omega)) (by simp only [V.dats, V.dat, Bool.and_self]) ?_
          simp only [sz.down, ↓reduceIte, Nat.reduceEqDiff, Nat.reduceLT, Nat.reduceLeDiff, Nat.reduceAdd, reduceCtorEq, TEP, tis, h0, h1, h2, h6, h7, h8, hd]
        · refine ACalls.ev (ev_letr on given[i] (by omega) (by omega) (by omega)) (by simp only [V.dats, V.dat, Bool.and_self]) ?_
          simp only [sz.down, ↓reduceIte, Nat.reduceEqDiff, Nat.reduceLT, Nat.reduceLeDiff, Nat.reduceAdd, reduceCtorEq, TEP, tis, h0, h1, h2, h6, h7, h8, hd]
      · rintro f h ⟨h0, h1, h2, h6, h7, h8, hd, rfl⟩
        simp only [sz.down, ↓reduceIte, Nat.reduceLT, TEP, h8, wrap_succ (show i < maxLen by omega)]
        exact .inl ⟨m - 1, by omega, i + 1, _, _, by omega, by simp only [sz.down, ↓reduceIte, reduceCtorEq, h0], by simp only [sz.down, ↓reduceIte, Nat.reduceEqDiff, h1], by simp only [sz.down, ↓reduceIte, Nat.reduceEqDiff, h2], by simp only [sz.down, ↓reduceIte, Nat.reduceEqDiff, h6], by simp only [sz.down, ↓reduceIte, Nat.reduceEqDiff, h7], by simp only [sz.down, ↓reduceIte], by simp only [sz.down, hd], rfl, hnext⟩
    | false =>
      rw [hB, Bool.or_false] at hnext
      simp only [sz.down, ↓reduceIte]
      refine awp_plan mixed planG (fun f' h' => f'.t 0 = cls l ∧ f'.t 1 = vi vars ∧ f'.t 2 = ints given ∧ f'.t 6 = .lp 0 0 ∧ f'.t 7 = .lp 2 0 ∧ f'.t 8 = vi i ∧ f'.d = [] ∧ h' = [.cells [.nils, .bool false], .dead, .cells [ints (letR on given[i]), .bool bad]]) (by decide +kernel) (by decide +kernel) ?_ ?_
      · simp only [sz.down, ↓reduceIte, Nat.reduceEqDiff, Nat.reduceLT, Nat.reduceLeDiff, Nat.reduceAdd, TEP, tis, ens, h2, h7, h8, planG, getI hc]
        refine ⟨⟨⟨by omega, by omega⟩, ?_⟩, ⟨by omega, by omega⟩, ?_, ?_⟩
        · refine ACalls.ev (ev_letr on given[i] (by omega) (by omega) (by omega)) (by simp only [V.dats, V.dat, Bool.and_self]) ?_
          simp only [sz.down, ↓reduceIte, Nat.reduceEqDiff, Nat.reduceLT, Nat.reduceLeDiff, Nat.reduceAdd, reduceCtorEq, TEP, tis, h0, h1, h2, h6, h7, h8, hd]
        · refine ACalls.ev (ev_letr on given[i] (by omega) (by omega) (by omega)) (by simp only [V.dats, V.dat, Bool.and_self]) ?_
          simp only [sz.down, ↓reduceIte, Nat.reduceEqDiff, Nat.reduceLT, Nat.reduceLeDiff, Nat.reduceAdd, reduceCtorEq, TEP, tis, h0, h1, h2, h6, h7, h8, hd]
        · refine ACalls.ev (ev_letr on given[i] (by omega) (by omega) (by omega)) (by simp only [V.dats, V.dat, Bool.and_self]) ?_
          simp only [sz.down, ↓reduceIte, Nat.reduceEqDiff, Nat.reduceLT, Nat.reduceLeDiff, Nat.reduceAdd, reduceCtorEq, TEP, tis, h0, h1, h2, h6, h7, h8, hd]
      · rintro f h ⟨h0, h1, h2, h6, h7, h8, hd, rfl⟩
        simp only [sz.down, ↓reduceIte, Nat.reduceLT, TEP, h8, wrap_succ (show i < maxLen by omega)]
        exact .inl ⟨m - 1, by omega, i + 1, _, _, by omega, by simp only [sz.down, ↓reduceIte, reduceCtorEq, h0], by simp only [sz.down, ↓reduceIte, Nat.reduceEqDiff, h1], by simp only [sz.down, ↓reduceIte, Nat.reduceEqDiff, h2], by simp only [sz.down, ↓reduceIte, Nat.reduceEqDiff, h6], by simp only [sz.down, ↓reduceIte, Nat.reduceEqDiff, h7], by simp only [sz.down, ↓reduceIte], by simp only [sz.down, hd], rfl, hnext⟩
  · simp only [decide_eq_false_iff_not, Int.ofNat_lt] at hc
    rw [List.take_of_length_le (by omega)] at hgood
    simp only [sz.down, Nat.reduceLT, TEP]
    refine awp_loop (fun m f h => ∃ n on bad, m + n = vars + 1 ∧ f.t 0 = cls l ∧ f.t 1 = vi vars ∧ f.t 6 = .lp 0 0 ∧ f.t 7 = .lp 2 0 ∧ f.t 9 = vi n ∧ f.d = [] ∧ h = [.cells [.nils, .bool false], .dead, .cells [ints on, .bool bad]] ∧ GoodR l given vars given on bad ∧ (bad = true ∨ Closed on l ∨ n ≤ nz on)) (vars + 1) ⟨0, on, bad, by omega, h0, h1, h6, h7, rfl, hd, rfl, hgood, .inr (.inr (by omega))⟩ ?_
    rintro m f h ⟨n, on, bad, hm, h0, h1, h6, h7, h9, hd, rfl, hgood, hprog⟩
    have hfin : (bad = true ∨ m = 0) → FinR l given vars on bad := by
      rintro hor
      cases bad with
      | true => exact finR_bad hgood
      | false =>
        refine finR_closed hl (fun b hb => (hg b hb).1) hgood ?_
        rcases hprog with h | h | h
        · cases h
        · exact h
        · have := nz_le hgood.len hgood.zer
          rcases hor with h | h
          · cases h
          · omega
    refine vc_ok mixed _ _ _ _ ?_
    cases bad with
    | true =>
      simp only [sz.down, ↓reduceIte, Nat.reduceEqDiff, Nat.reduceLT, Nat.reduceAdd, reduceCtorEq, TEP, tis, h1, h6, h7, h9, hd]
      exact ⟨_, ⟨on, true, rfl, hfin (.inl rfl)⟩, .agg (.dat (by simp only [V.dats, V.dat, Bool.and_self]))⟩
    | false =>
      simp only [sz.down, ↓reduceIte, Nat.reduceEqDiff, Nat.reduceLT, Nat.reduceAdd, TEP, tis, h1, h7, h9]
      have hprog : Closed on l ∨ n ≤ nz on := hprog.resolve_left (by simp)
      refine vcB.mk (fun hc => ?_) (fun hc => ?_)
      · simp only [decide_eq_true_eq, Int.ofNat_le] at hc
        simp only [sz.down, Nat.reduceLT, TEP]
        refine awp_loop (fun m2 f h => ∃ i on bad, m2 + i = l.length ∧ f.t 0 = cls l ∧ f.t 1 = vi vars ∧ f.t 6 = .lp 0 0 ∧ f.t 7 = .lp 2 0 ∧ f.t 9 = vi n ∧ f.t 10 = vi i ∧ f.d = [] ∧ h = [.cells [.nils, .bool false], .dead, .cells [ints on, .bool bad]] ∧ GoodR l given vars given on bad ∧ (bad = true ∨ ProgR l n i on)) l.length ⟨0, on, false, by omega, h0, h1, h6, h7, h9, rfl, hd, rfl, hgood, .inr (.inl ⟨by intro c hc; simp at hc, hprog⟩)⟩ ?_
        rintro m2 f h ⟨i, on, bad, hm2, h0, h1, h6, h7, h9, h10, hd, rfl, hgood, hprog⟩
        have hlen := hgood.len
        have hdone : (bad = true ∨ m2 = 0) → bad = true ∨ Closed on l ∨ n + 1 ≤ nz on := by
          intro hor
          rcases hprog with h | ⟨h, _⟩ | h
          · exact .inl h
          · rcases hor with h2 | h2
            · exact .inl h2
            · rw [List.take_of_length_le (by omega)] at h
              exact .inr (.inl h)
          · exact .inr (.inr h)
        refine vc_ok mixed _ _ _ _ ?_
        cases bad with
        | true =>
          simp only [sz.down, ↓reduceIte, Nat.reduceEqDiff, Nat.reduceLT, Nat.reduceAdd, reduceCtorEq, TEP, tis, h0, h7, h9, h10, wrap_succ (show n < maxLen by omega)]
          refine .inl ⟨m - 1, by omega, n + 1, _, _, by omega, by simp only [sz.down, ↓reduceIte, reduceCtorEq, h0], by simp only [sz.down, ↓reduceIte, Nat.reduceEqDiff, h1], by simp only [sz.down, ↓reduceIte, Nat.reduceEqDiff, h6], by simp only [sz.down, ↓reduceIte, Nat.reduceEqDiff, h7], by simp only [sz.down, ↓reduceIte], by simp only [sz.down, hd], rfl, hgood, hdone (.inl rfl)⟩
        | false =>
          simp only [sz.down, ↓reduceIte, Nat.reduceEqDiff, Nat.reduceLT, Nat.reduceAdd, reduceCtorEq, TEP, tis, h0, h7, h10]
          refine vcB.mk (fun hi => ?_) (fun hi => ?_)
          · simp only [decide_eq_true_eq, Int.ofNat_lt] at hi
            obtain ⟨g1, g2⟩ := goodR_one hgood hi rfl (hl _ (List.getElem_mem hi)) (hprog.resolve_left (by simp))
            simp only [sz.down]
            refine awp_plan mixed planO (fun f' h' => f'.t 0 = cls l ∧ f'.t 1 = vi vars ∧ f'.t 6 = .lp 0 0 ∧ f'.t 7 = .lp 2 0 ∧ f'.t 9 = vi n ∧ f'.t 10 = vi i ∧ f'.d = [] ∧ h' = [.cells [.nils, .bool false], .dead, .cells [ints (oneR (on, false) l[i]).1, .bool (oneR (on, false) l[i]).2]]) (by decide +kernel) (by decide +kernel) ?_ ?_
            · simp only [sz.down, ↓reduceIte, Nat.reduceEqDiff, Nat.reduceLT, Nat.reduceAdd, reduceCtorEq, TEP, tis, ens, h0, h7, h10, planO, getC hi]
              refine ⟨⟨⟨by omega, by omega⟩, ?_⟩, ⟨by omega, by omega⟩, ?_, ?_⟩
              · refine ACalls.ev (ev_one on false l[i] (by omega) (hcl _ (List.getElem_mem hi)) (fun a ha => by have := hl _ (List.getElem_mem hi) a ha; omega)) (by simp only [V.dats, V.dat, Bool.and_self]) ?_
                simp only [sz.down, ↓reduceIte, Nat.reduceEqDiff, Nat.reduceAdd, reduceCtorEq, TEP, tis, h0, h1, h6, h7, h9, h10, hd]
              · refine ACalls.ev (ev_one on false l[i] (by omega) (hcl _ (List.getElem_mem hi)) (fun a ha => by have := hl _ (List.getElem_mem hi) a ha; omega)) (by simp only [V.dats, V.dat, Bool.and_self]) ?_
                simp only [sz.down, ↓reduceIte, Nat.reduceEqDiff, Nat.reduceAdd, reduceCtorEq, TEP, tis, h0, h1, h6, h7, h9, h10, hd]
              · refine ACalls.ev (ev_one on false l[i] (by omega) (hcl _ (List.getElem_mem hi)) (fun a ha => by have := hl _ (List.getElem_mem hi) a ha; omega)) (by simp only [V.dats, V.dat, Bool.and_self]) ?_
                simp only [sz.down, ↓reduceIte, Nat.reduceEqDiff, Nat.reduceAdd, reduceCtorEq, TEP, tis, h0, h1, h6, h7, h9, h10, hd]
            · rintro f h ⟨h0, h1, h6, h7, h9, h10, hd, rfl⟩
              simp only [sz.down, ↓reduceIte, Nat.reduceLT, TEP, h10, wrap_succ (show i < maxLen by omega)]
              exact .inl ⟨m2 - 1, by omega, i + 1, _, _, by omega, by simp only [sz.down, ↓reduceIte, reduceCtorEq, h0], by simp only [sz.down, ↓reduceIte, Nat.reduceEqDiff, h1], by simp only [sz.down, ↓reduceIte, Nat.reduceEqDiff, h6], by simp only [sz.down, ↓reduceIte, Nat.reduceEqDiff, h7], by simp only [sz.down, ↓reduceIte, Nat.reduceEqDiff, h9], by simp only [sz.down, ↓reduceIte], by simp only [sz.down, hd], rfl, g1, g2⟩
          · simp only [decide_eq_false_iff_not, Int.ofNat_lt] at hi
            simp only [sz.down, ↓reduceIte, Nat.reduceEqDiff, Nat.reduceLT, TEP, h9, wrap_succ (show n < maxLen by omega)]
            refine .inl ⟨m - 1, by omega, n + 1, _, _, by omega, by simp only [sz.down, ↓reduceIte, reduceCtorEq, h0], by simp only [sz.down, ↓reduceIte, Nat.reduceEqDiff, h1], by simp only [sz.down, ↓reduceIte, Nat.reduceEqDiff, h6], by simp only [sz.down, ↓reduceIte, Nat.reduceEqDiff, h7], by simp only [sz.down, ↓reduceIte], by simp only [sz.down, hd], rfl, hgood, hdone (.inr (by omega))⟩
      · simp only [decide_eq_false_iff_not, Int.ofNat_le] at hc
        simp only [sz.down, ↓reduceIte, Nat.reduceEqDiff, Nat.reduceLT, Nat.reduceAdd, reduceCtorEq, TEP, tis, h6, h7, hd]
        exact ⟨_, ⟨on, false, rfl, hfin (.inr (by omega))⟩, .agg (.dat (by simp only [V.dats, V.dat, Bool.and_self]))⟩

end Go.Proofs.Ytajcfppemkdomaa

set_option linter.unusedVariables false
set_option linter.unusedSimpArgs false
set_option linter.unnecessarySimpa false
namespace Go.Proofs.Ytajcfppemkdomaa
open Go Go.Proofs Go.Abs Go.RowKit

/-- What the document's side may be asked. -/
structure LitN (l : List Cl) (vars : Nat) : Prop where
  rng : ∀ c ∈ l, ∀ b ∈ c, b ≠ 0 ∧ b.natAbs ≤ vars
  len : ∀ c ∈ l, c.length ≤ 1000000

theorem FinR.badB {l : List Cl} {given on : Cl} {vars : Nat} {bad : Bool} (h : FinR l given vars on bad) : bad = badB l given := by
  cases bad
  · rw [badB_false (h.not rfl)]
  · rw [badB_true (h.isb rfl)]

theorem neg_rng {c : Cl} {vars : Nat} (h : ∀ b ∈ c, b ≠ 0 ∧ b.natAbs ≤ vars) : ∀ b ∈ negs c, b ≠ 0 ∧ b.natAbs ≤ vars := by
  intro b hb
  obtain ⟨a, ha, rfl⟩ := List.mem_map.1 hb
  have := h a ha
  omega

set_option maxHeartbeats 2000000 in
theorem ev_rrup (l : List Cl) (vars : Nat) (c : Cl) (hv : vars ≤ 20000) (hln : l.length ≤ 1000000) (hl : LitN l vars) (hcl : c.length ≤ 1000000) (hc : ∀ b ∈ c, b ≠ 0 ∧ b.natAbs ≤ vars) :
    Ev TE 54 [cls l, vi vars, ints c] (.bool (badB l (negs c))) := by
  have hM : maxLen = 9223372036854775807 := rfl
  refine Ev.of_awp Try.func54 rfl (by simp [nts]) (vc_ok mixed _ _ _ _ ?_)
  simp only [sz.down, Nat.reduceLT, TEP, nts, Try.results54]
  refine awp_loop (fun m f h => ∃ i, m + i = c.length ∧ f.t 0 = cls l ∧ f.t 1 = vi vars ∧ f.t 2 = ints c ∧ f.t 8 = vi i ∧ f.d = [] ∧ RowV 0 ((negs (c.take i)).map vi) (f.t 7) [] h) c.length ⟨0, by simp, rfl, rfl, rfl, rfl, rfl, .inl ⟨rfl, rfl, rfl⟩⟩ ?_
  rintro m f h ⟨i, hm, h0, h1, h2, h8, hd, hrow⟩
  refine vc_ok mixed _ _ _ _ ?_
  simp only [sz.down, ↓reduceIte, Nat.reduceEqDiff, Nat.reduceLT, TEP, tis, h2, h8]
  refine vcB.mk (fun hlt => ?_) (fun hlt => ?_)
  · simp only [decide_eq_true_eq, Int.ofNat_lt] at hlt
    have hrg := hc _ (List.getElem_mem hlt)
    have hneg : IntKind.i64.wrap (0 - c[i]) = -c[i] := by rw [wrapn (by omega) (by omega)]; omega
    have hn : (negs (c.take (i + 1))).map vi = (negs (c.take i)).map vi ++ [vi (-c[i])] := by
      unfold negs
      rw [List.map_map, take_map_succ hlt, List.map_map]; rfl
    have hln : (negs (c.take i)).length = i := by simp [negs]; omega
    rcases hrow with ⟨ho, hv, rfl⟩ | ⟨hv, rfl⟩
    · simp only [sz.down, ↓reduceIte, Nat.reduceEqDiff, Nat.reduceLT, Nat.reduceLeDiff, reduceCtorEq, Nat.reduceMul, TEP, tis, h2, h8, getI hlt, hv, hneg, wrap_succ (show i < maxLen by omega)]
      refine ⟨⟨by omega, by omega⟩, ⟨rfl, by decide⟩, by omega, .inl ⟨m - 1, by omega, i + 1, by omega, h0, h1, h2, rfl, hd, ?_⟩⟩
      rw [hn, ho]
      exact .inr ⟨rfl, rfl⟩
    · simp only [sz.down, ↓reduceIte, Nat.reduceEqDiff, Nat.reduceLT, reduceCtorEq, Nat.reduceMul, TEP, tis, h2, h8, hd, getI hlt, hv, hneg, wrap_succ (show i < maxLen by omega)]
      refine ⟨⟨by omega, by omega⟩, ⟨rfl, by decide⟩, ⟨by omega, by omega, by omega⟩, .inl ⟨m - 1, by omega, i + 1, by omega, by simp only [sz.down, ↓reduceIte, reduceCtorEq, h0], by simp only [sz.down, ↓reduceIte, Nat.reduceEqDiff, h1], by simp only [sz.down, ↓reduceIte, Nat.reduceEqDiff, h2], rfl, hd, ?_⟩⟩
      rw [hn]
      exact .inr ⟨by simp only [sz.down, ↓reduceIte, Nat.reduceEqDiff], by simp only [sz.down, drops_vi]⟩
  · simp only [decide_eq_false_iff_not, Int.ofNat_lt] at hlt
    rw [List.take_of_length_le (by omega)] at hrow
    obtain ⟨hs1, hs2⟩ := hrow.scv
    simp only [sz.down, ↓reduceIte, Nat.reduceEqDiff, Nat.reduceLT, reduceCtorEq, TEP, ens, h0, h1, hs1, hs2]
    refine ACalls.giveAllR (ev_Reach l vars (negs c) hv hln hl.len (by simpa [negs] using hcl) hl.rng (neg_rng hc)) (Reifs.cons (Reif.dat (by simp only [V.dat])) (Reifs.cons (Reif.dat rfl) (Reifs.cons (hrow.reifI rfl) Reifs.nil))) ?_
    rintro r ⟨on, bad, rfl, hfin⟩
    rw [← hfin.badB]
    rcases hrow with ⟨_, _, rfl⟩ | ⟨_, rfl⟩
    · simp only [sz.down, ↓reduceIte, Nat.reduceEqDiff, Nat.reduceLT, Nat.reduceAdd, reduceCtorEq, TEP, tis, callK, hd]
      exact Reif.dat rfl
    · simp only [sz.down, ↓reduceIte, Nat.reduceEqDiff, Nat.reduceLT, Nat.reduceAdd, reduceCtorEq, TEP, tis, callK, hd]
      exact Reif.dat rfl

theorem ev_rRup (l : List Cl) (vars : Int) (c : Cl) (hcl : ∀ c ∈ l, c.length ≤ 1000000) (hc : c.length ≤ 1000000) : Ev TE 34 [cls l, vi vars, ints c] (.tup [.bool (rupV l vars c).1, vi (rupV l vars c).2]) := by
  refine Ev.of_awp Try.func34 rfl (by simp [nts]) (vc_ok mixed _ _ _ _ ?_)
  simp only [sz.down, ↓reduceIte, Nat.reduceEqDiff, Nat.reduceLT, reduceCtorEq, TEP, ens, nts, Try.results34]
  refine ACalls.ev (ev_rcheck l vars) (by simp only [V.dats, V.dat]; rfl) ?_
  simp only [sz.down, ↓reduceIte, Nat.reduceLT, TEP]
  refine vcB.mk (fun hq => ?_) (fun hq => ?_)
  · have hq : chk l vars ≠ 0 := by simpa using hq
    have ha : ask l vars [c] = chk l vars := by unfold ask; rw [if_pos hq]
    have h0 : rupV l vars c = (false, chk l vars) := by unfold rupV; rw [ha, if_pos hq]
    rw [h0]
    simp only [sz.down, ↓reduceIte, Nat.reduceEqDiff, Nat.reduceLT, TEP]
    exact Reif.dat rfl
  · have hq : chk l vars = 0 := by simpa using hq
    obtain ⟨k1, k2, k3, k4⟩ := chk_vars hq
    obtain ⟨n, rfl⟩ : ∃ n : Nat, vars = n := ⟨vars.toNat, by omega⟩
    simp only [sz.down, ↓reduceIte, Nat.reduceEqDiff, Nat.reduceLT, TEP, ens]
    refine ACalls.ev (ev_literals c n k1 k2) (by simp only [V.dats, V.dat]; rfl) ?_
    have ha : ask l n [c] = if c.all (lit n) = true then 0 else 1 := by unfold ask; rw [if_neg (by simp [hq])]; simp
    cases hA : c.all (lit n) with
    | false =>
      have h0 : rupV l n c = (false, 1) := by unfold rupV; rw [ha, hA]; rfl
      rw [h0]
      simp only [sz.down, ↓reduceIte, Nat.reduceEqDiff, Nat.reduceLT, TEP]
      exact Reif.dat rfl
    | true =>
      have h0 : rupV l n c = (badB l (negs c), 0) := by unfold rupV; rw [ha, hA]; rfl
      have hln : LitN l n := ⟨fun c hc b hb => by have := lit_rng (k4 c hc b hb); omega, hcl⟩
      rw [h0]
      simp only [sz.down, ↓reduceIte, Nat.reduceEqDiff, Nat.reduceLT, reduceCtorEq, TEP, ens]
      refine ACalls.ev (ev_rrup l n c (by omega) (by omega) hln hc (fun b hb => by have := lit_rng (List.all_eq_true.1 hA b hb); omega)) (by simp only [V.dats, V.dat]; rfl) ?_
      simp only [sz.down, ↓reduceIte, Nat.reduceEqDiff, Nat.reduceLT, TEP]
      exact Reif.dat rfl

end Go.Proofs.Ytajcfppemkdomaa
