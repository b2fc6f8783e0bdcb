/- Functions of the program, part 6. -/
import Derived.Test.YtegnjoonhabicaaF5
import Derived.Test.YtegnjoonhabicaaA9
set_option linter.unusedVariables false
set_option linter.unusedSimpArgs false
set_option linter.unnecessarySimpa false
namespace Go.Proofs.Ytegnjoonhabicaa
open Go Go.Proofs Go.Abs

/-- With one more. -/
def addI (ks : Cl) (a : Int) : Cl := if a ∈ ks then ks else ks ++ [a]

theorem mputI (a : Int) (ks : Cl) : mput (.int .i64) (vi a) (.bool true) (ks.map vi) (heldT ks) = some ((addI ks a).map vi, heldT (addI ks a)) := by
  unfold mput addI
  rw [mfindI]
  cases h : ks.findIdx? (· == a) with
  | none =>
    have hn : ¬ a ∈ ks := by
      intro hm
      have := List.findIdx?_eq_none_iff.1 h a hm
      simp at this
    simp [hn, heldT]
  | some n =>
    obtain ⟨h1, h2, _⟩ := List.findIdx?_eq_some_iff_getElem.1 h
    have h2 : ks[n] = a := by simpa using h2
    have hm : a ∈ ks := h2 ▸ List.getElem_mem h1
    rw [if_pos hm]
    have e1 : (ks.map vi).set n (vi a) = ks.map vi := by rw [← List.map_set, ← h2, List.set_getElem_self]
    have e2 : (heldT ks).set n (.bool true) = heldT ks := by
      refine List.ext_getElem (by simp) fun i h1 h2 => ?_
      rw [List.getElem_set]
      split <;> simp
    simp only [e1, e2]

/-- What 'let' tells. -/
def letOk (ks : Cl) (a : Int) : Bool := a != 0 && !((addI ks a).contains (-a))

theorem let_calls (a : Int) (ha : -20000 ≤ a ∧ a ≤ 20000) (ks : Cl) (o0 o1 : O) (tl : H) (R : AEnd → H → (Nat → Bool) → Prop)
    (hr : R (.ret (.bool (letOk ks a))) (o0 :: o1 :: .map ((addI ks a).map vi) (heldT (addI ks a)) :: .cells [.lm 2] :: tl) (fun _ => false)) :
    ACalls TE 46 [vi a, .lp 3 0] (o0 :: o1 :: .map (ks.map vi) (heldT ks) :: .cells [.lm 2] :: tl) R := by
  refine ACalls.of_awp Try.func46 rfl (by simp [nts]) (vc_ok mixed _ _ _ _ ?_)
  simp only [sa0.down, sa1.down, sa2.down, sa3.down, sa4.down, sb0.down, sb1.down, sb2.down, sb3.down, ↓reduceIte, Nat.reduceEqDiff, Nat.reduceLT, Nat.reduceLeDiff, Nat.reduceAdd, Nat.reduceSub, Int.reduceToNat, Nat.reduceDiv, Int.reduceLT, Int.reduceLE, Int.reduceNeg, Int.reduceBEq, Int.reduceBNe, Int.reduceAdd, Int.reduceSub, Nat.reduceBEq, reduceCtorEq, Nat.reduceMul, TEP, tis, ens, nts, Try.results46, mputI, K.keyOk, mgetI, wrapneg ha]
  exact hr

theorem goOn_calls (l : List Cl) (ks : Cl) (o0 o1 o4 : O) (R : AEnd → H → (Nat → Bool) → Prop)
    (hr : R (.ret (.fn (.func 60) [] [.lp 6 0, .lp 5 0])) [o0, o1, .map (ks.map vi) (heldT ks), .cells [.lm 2], o4, .cells [.lm 2], .cells [cls l]] (fun _ => false)) :
    ACalls TE 47 [.lm 2, cls l] [o0, o1, .map (ks.map vi) (heldT ks), .cells [.lm 2], o4] R := by
  refine ACalls.of_awp Try.func47 rfl (by simp [nts]) (vc_ok mixed _ _ _ _ ?_)
  simp only [sa0.down, sa1.down, sa2.down, sa3.down, sa4.down, sb0.down, sb1.down, sb2.down, sb3.down, ↓reduceIte, Nat.reduceEqDiff, Nat.reduceLT, Nat.reduceLeDiff, Nat.reduceAdd, Nat.reduceSub, Int.reduceToNat, Nat.reduceDiv, Int.reduceLT, Int.reduceLE, Int.reduceNeg, Int.reduceBEq, Int.reduceBNe, Int.reduceAdd, Int.reduceSub, Nat.reduceBEq, reduceCtorEq, Nat.reduceMul, TEP, tis, ens, nts, Try.results47]
  exact hr

/-! ### What follows -/
inductive Der (l : List Cl) (given : Cl) : Int → Prop
  | start (a : Int) : a ∈ given → Der l given a
  | unit (c : Cl) (a : Int) : c ∈ l → a ∈ c → (∀ b ∈ c, b ≠ a → Der l given (-b)) → Der l given a

def Bad (l : List Cl) (given : Cl) : Prop := (∃ c ∈ l, ∀ b ∈ c, Der l given (-b)) ∨ ∃ a, Der l given a ∧ Der l given (-a)

structure Good (l : List Cl) (given g : Cl) (ks : Cl) : Prop where
  der : ∀ a ∈ ks, Der l given a
  all : ∀ a ∈ g, a ∈ ks
  con : ∀ a ∈ ks, ¬ -a ∈ ks
  rng : ∀ a ∈ ks, -20000 ≤ a ∧ a ≤ 20000 ∧ a ≠ 0
  nod : ks.Nodup

structure Fin (l : List Cl) (given ks : Cl) : Prop where
  iff : ∀ a, a ∈ ks ↔ Der l given a
  not : ¬ Bad l given
  rng : ∀ a ∈ ks, -20000 ≤ a ∧ a ≤ 20000 ∧ a ≠ 0
  nod : ks.Nodup

theorem unitF_one {ks : Cl} : ∀ {c : Cl} {one : Int}, one ≠ 0 → (unitF ks one c).1 ≠ 0 → (∀ b ∈ c, b ≠ 0) → (unitF ks one c).1 = one ∧ ∀ b ∈ c, b ≠ one → -b ∈ ks
  | [], one, h0, _, _ => ⟨rfl, by simp⟩
  | a :: c, one, h0, h, hz => by
    unfold unitF at h ⊢
    split at h
    · exact absurd rfl h
    · rename_i hh
      rw [if_neg hh]
      have hz2 : ∀ b ∈ c, b ≠ 0 := fun b hb => hz b (List.mem_cons_of_mem _ hb)
      split at h
      · rename_i h2
        rw [if_pos h2]
        obtain ⟨h3, h4⟩ := unitF_one (c := c) h0 h hz2
        refine ⟨h3, fun b hb hne => ?_⟩
        rcases List.mem_cons.1 hb with rfl | hb
        · simpa using h2
        · exact h4 b hb hne
      · rename_i h2
        rw [if_neg h2]
        have hao : a = one := by
          apply Classical.byContradiction
          intro hne
          apply hh
          have h5 : (one != 0) = true := bne_iff_ne.2 h0
          have h6 : (one != a) = true := bne_iff_ne.2 (fun h => hne h.symm)
          have h7 : ks.contains (-a) = false := by simpa using h2
          rw [h5, h6, h7]
          simp
        subst hao
        obtain ⟨h3, h4⟩ := unitF_one (c := c) h0 h hz2
        refine ⟨h3, fun b hb hne => ?_⟩
        rcases List.mem_cons.1 hb with rfl | hb
        · exact absurd rfl hne
        · exact h4 b hb hne

theorem unitF_rest {ks : Cl} : ∀ {c : Cl}, (unitF ks 0 c).1 ≠ 0 → (∀ b ∈ c, b ≠ 0) → ∀ b ∈ c, b ≠ (unitF ks 0 c).1 → -b ∈ ks
  | [], h, _ => by simp
  | a :: c, h, hz => by
    unfold unitF at h ⊢
    split at h
    · exact absurd rfl h
    · rename_i hh
      rw [if_neg hh]
      have hz2 : ∀ b ∈ c, b ≠ 0 := fun b hb => hz b (List.mem_cons_of_mem _ hb)
      split at h
      · rename_i h2
        rw [if_pos h2]
        intro b hb hne
        rcases List.mem_cons.1 hb with rfl | hb
        · simpa using h2
        · exact unitF_rest (c := c) h hz2 b hb hne
      · rename_i h2
        rw [if_neg h2]
        obtain ⟨h3, h4⟩ := unitF_one (c := c) (hz a List.mem_cons_self) h hz2
        intro b hb hne
        rw [h3] at hne
        rcases List.mem_cons.1 hb with rfl | hb
        · exact absurd rfl hne
        · exact h4 b hb hne

theorem unitF_bad {ks : Cl} : ∀ {c : Cl} {one : Int}, (unitF ks one c).2 = true → (∀ b ∈ c, b ≠ 0) → one = 0 ∧ ∀ b ∈ c, -b ∈ ks
  | [], one, h, _ => by
    simp only [unitF, beq_iff_eq] at h
    exact ⟨h, by simp⟩
  | a :: c, one, h, hz => by
    unfold unitF at h
    have hz2 : ∀ b ∈ c, b ≠ 0 := fun b hb => hz b (List.mem_cons_of_mem _ hb)
    split at h
    · cases h
    · split at h
      · rename_i h2
        obtain ⟨h3, h4⟩ := unitF_bad (c := c) h hz2
        refine ⟨h3, fun b hb => ?_⟩
        rcases List.mem_cons.1 hb with rfl | hb
        · simpa using h2
        · exact h4 b hb
      · exact absurd (unitF_bad (c := c) h hz2).1 (hz a List.mem_cons_self)

theorem unitF_no {ks : Cl} : ∀ {c : Cl} {one : Int}, unitF ks one c = (0, false) → (∀ b ∈ c, b ≠ 0) → (one ≠ 0 → ¬ -one ∈ ks) →
    (∃ a ∈ c, a ∈ ks) ∨ ∃ a ∈ c, ¬ -a ∈ ks ∧ ∃ b, ((b = one ∧ one ≠ 0) ∨ b ∈ c) ∧ b ≠ a ∧ ¬ -b ∈ ks
  | [], one, h, _, _ => by
    simp only [unitF, Prod.mk.injEq, beq_eq_false_iff_ne] at h
    exact absurd h.1 h.2
  | a :: c, one, h, hz, ho => by
    unfold unitF at h
    have hz2 : ∀ b ∈ c, b ≠ 0 := fun b hb => hz b (List.mem_cons_of_mem _ hb)
    split at h
    · rename_i hh
      simp only [Bool.or_eq_true, Bool.and_eq_true, bne_iff_ne, Bool.not_eq_true'] at hh
      rcases hh with hh | ⟨⟨h1, h2⟩, h3⟩
      · exact .inl ⟨a, List.mem_cons_self, by simpa using hh⟩
      · exact .inr ⟨a, List.mem_cons_self, by simpa using h3, one, .inl ⟨rfl, h1⟩, h2, ho h1⟩
    · split at h
      · rcases unitF_no (c := c) h hz2 ho with ⟨x, h1, h2⟩ | ⟨x, h1, h2, y, h3, h4⟩
        · exact .inl ⟨x, List.mem_cons_of_mem _ h1, h2⟩
        · refine .inr ⟨x, List.mem_cons_of_mem _ h1, h2, y, ?_, h4⟩
          rcases h3 with h3 | h3
          · exact .inl h3
          · exact .inr (List.mem_cons_of_mem _ h3)
      · rename_i h2
        have h2 : ¬ -a ∈ ks := by simpa using h2
        rcases unitF_no (c := c) h hz2 (fun _ => h2) with ⟨x, h1, h2⟩ | ⟨x, h1, h2, y, h3, h4⟩
        · exact .inl ⟨x, List.mem_cons_of_mem _ h1, h2⟩
        · refine .inr ⟨x, List.mem_cons_of_mem _ h1, h2, y, ?_, h4⟩
          rcases h3 with ⟨rfl, _⟩ | h3
          · exact .inr List.mem_cons_self
          · exact .inr (List.mem_cons_of_mem _ h3)

/-- What is closed is all that follows. -/
theorem let_new {ks : Cl} {a : Int} (h0 : a ≠ 0) (h1 : ¬ a ∈ ks) (h2 : ¬ -a ∈ ks) : letOk ks a = true ∧ addI ks a = ks ++ [a] := by
  have e : addI ks a = ks ++ [a] := by unfold addI; rw [if_neg h1]
  refine ⟨?_, e⟩
  have hb : (a != 0) = true := bne_iff_ne.2 h0
  have h3 : ¬ -a ∈ ks ++ [a] := by
    intro h
    rcases List.mem_append.1 h with h | h
    · exact h2 h
    · have : -a = a := by simpa using h
      omega
  unfold letOk
  rw [hb, e]
  simpa using h3

theorem fin_of {l : List Cl} {given ks : Cl} (hz : ∀ c ∈ l, ∀ b ∈ c, b ≠ 0) (hg : Good l given given ks) (hc : ∀ c ∈ l, unitF ks 0 c = (0, false)) : Fin l given ks := by
  have key : ∀ a, Der l given a → a ∈ ks := by
    intro a h
    induction h with
    | start a h => exact hg.all a h
    | unit c a h1 h2 h3 ih =>
      rcases unitF_no (hc c h1) (hz c h1) (by simp) with ⟨x, hx, hx2⟩ | ⟨x, hx, hx2, y, hy, hxy, hy2⟩
      · by_cases hxa : x = a
        · subst hxa; exact hx2
        · exact absurd (ih x hx hxa) (hg.con x hx2)
      · have hy : y ∈ c := by
          rcases hy with ⟨_, hy⟩ | hy
          · exact absurd rfl hy
          · exact hy
        by_cases hxa : x = a
        · subst hxa
          exact absurd (ih y hy hxy) hy2
        · exact absurd (ih x hx hxa) hx2
  refine ⟨fun a => ⟨hg.der a, key a⟩, ?_, hg.rng, hg.nod⟩
  rintro (⟨c, h1, h2⟩ | ⟨a, h1, h2⟩)
  · rcases unitF_no (hc c h1) (hz c h1) (by simp) with ⟨x, hx, hx2⟩ | ⟨x, hx, hx2, _⟩
    · exact hg.con x hx2 (key _ (h2 x hx))
    · exact hx2 (key _ (h2 x hx))
  · exact hg.con a (key _ h1) (key _ h2)

theorem good_step {l : List Cl} {given g ks c : Cl} (hz : ∀ c ∈ l, ∀ b ∈ c, -20000 ≤ b ∧ b ≤ 20000 ∧ b ≠ 0) (hg : Good l given g ks) (hc : c ∈ l) (hn : (unitF ks 0 c).1 ≠ 0) : Good l given g (ks ++ [(unitF ks 0 c).1]) := by
  obtain ⟨u1, u2, u3, _⟩ := unitF_mem hn (by simp)
  have u1 : (unitF ks 0 c).1 ∈ c := by
    rcases u1 with u1 | u1
    · exact absurd u1 hn
    · exact u1
  have hr := unitF_rest hn (fun b hb => (hz c hc b hb).2.2)
  generalize (unitF ks 0 c).1 = a at *
  refine ⟨?_, ?_, ?_, ?_, ?_⟩
  · intro x hx
    rcases List.mem_append.1 hx with hx | hx
    · exact hg.der x hx
    · have : x = a := by simpa using hx
      subst this
      exact .unit c x hc u1 fun b hb hne => hg.der _ (hr b hb hne)
  · intro x hx
    exact List.mem_append_left _ (hg.all x hx)
  · intro x hx hx2
    rcases List.mem_append.1 hx with hy | hy <;> rcases List.mem_append.1 hx2 with hy2 | hy2
    · exact hg.con x hy hy2
    · have : -x = a := by simpa using hy2
      apply u3
      rw [show -a = x by omega]
      exact hy
    · have : x = a := by simpa using hy
      rw [this] at hy2
      exact u3 hy2
    · have h1 : x = a := by simpa using hy
      have h2 : -x = a := by simpa using hy2
      have h3 : -a ∈ ks ++ [a] := by rw [h1] at hx2; exact hx2
      omega
  · intro x hx
    rcases List.mem_append.1 hx with hx | hx
    · exact hg.rng x hx
    · have : x = a := by simpa using hx
      subst this
      exact hz c hc x u1
  · rw [List.nodup_append]
    refine ⟨hg.nod, by simp, ?_⟩
    intro x hx y hy hxy
    simp only [List.mem_singleton] at hy
    subst hy; subst hxy
    exact u2 hx

theorem good_let {l : List Cl} {given g ks : Cl} {a : Int} (hr : -20000 ≤ a ∧ a ≤ 20000 ∧ a ≠ 0) (ha : a ∈ given) (hg : Good l given g ks) (h : letOk ks a = true) : Good l given (g ++ [a]) (addI ks a) := by
  have h0 : ¬ -a ∈ addI ks a := by
    simp only [letOk, Bool.and_eq_true, Bool.not_eq_true'] at h
    simpa using h.2
  have hm : ∀ x, x ∈ addI ks a ↔ x ∈ ks ∨ x = a := by
    intro x
    unfold addI
    split
    · rename_i hh
      constructor
      · exact .inl
      · rintro (h | rfl) <;> assumption
    · simp
  refine ⟨?_, ?_, ?_, ?_, ?_⟩
  · intro x hx
    rcases (hm x).1 hx with hx | rfl
    · exact hg.der x hx
    · exact .start x ha
  · intro x hx
    rcases List.mem_append.1 hx with hx | hx
    · exact (hm x).2 (.inl (hg.all x hx))
    · exact (hm x).2 (.inr (by simpa using hx))
  · intro x hx hx2
    rcases (hm x).1 hx with hx | rfl
    · rcases (hm _).1 hx2 with hx2 | hx2
      · exact hg.con x hx hx2
      · apply h0
        rw [show -a = x by omega]
        exact (hm x).2 (.inl hx)
    · exact h0 hx2
  · intro x hx
    rcases (hm x).1 hx with hx | rfl
    · exact hg.rng x hx
    · exact hr
  · unfold addI
    split
    · exact hg.nod
    · rename_i hh
      rw [List.nodup_append]
      refine ⟨hg.nod, by simp, ?_⟩
      intro x hx y hy hxy
      simp only [List.mem_singleton] at hy
      subst hy; subst hxy
      exact hh hx

theorem bad_let {l : List Cl} {given g ks : Cl} {a : Int} (hr : a ≠ 0) (ha : a ∈ given) (hg : Good l given g ks) (h : letOk ks a = false) : Bad l given := by
  have hb : (a != 0) = true := bne_iff_ne.2 hr
  simp only [letOk, hb, Bool.true_and, Bool.not_eq_false'] at h
  have h : -a ∈ addI ks a := by simpa using h
  unfold addI at h
  refine .inr ⟨a, .start a ha, ?_⟩
  split at h
  · exact hg.der _ h
  · rcases List.mem_append.1 h with h | h
    · exact hg.der _ h
    · have : -a = a := by simpa using h
      omega

set_option maxHeartbeats 2000000 in
theorem ev_reach (l : List Cl) (given : Cl) (hl : ∀ c ∈ l, ∀ b ∈ c, -20000 ≤ b ∧ b ≤ 20000 ∧ b ≠ 0) (hg : ∀ b ∈ given, -20000 ≤ b ∧ b ≤ 20000 ∧ b ≠ 0) :
    EvR TE 24 [cls l, ints given] fun v => (∃ ks, v = .tup [heldV ks, .bool true] ∧ Fin l given ks) ∨ (v = .tup [.nilm, .bool false] ∧ Bad l given) := by
  refine EvR.of_calls (ACalls.bnd fun hb => ?_)
  have hlen := cls_len hb
  have hlen2 := mem1 hb
  refine ACalls.of_awp Try.func24 rfl (by simp [nts]) (vc_ok mixed _ _ _ _ ?_)
  simp only [sa0.down, sa1.down, sa2.down, sa3.down, sa4.down, sb0.down, sb1.down, sb2.down, sb3.down, ↓reduceIte, Nat.reduceEqDiff, Nat.reduceLT, Nat.reduceLeDiff, Nat.reduceAdd, Nat.reduceSub, Int.reduceToNat, Nat.reduceDiv, Int.reduceLT, Int.reduceLE, Int.reduceNeg, Int.reduceBEq, Int.reduceBNe, Int.reduceAdd, Int.reduceSub, Nat.reduceBEq, reduceCtorEq, Nat.reduceMul, TEP, tis, ens, nts, Try.results24]
  refine awp_loop (fun m f h => ∃ i ks, m + i = given.length ∧ f.t 0 = cls l ∧ f.t 1 = ints given ∧ f.t 4 = .lp 0 0 ∧ f.t 5 = .lp 1 0 ∧ f.t 6 = .lp 3 0 ∧ f.t 7 = .lp 4 0 ∧ f.t 13 = ints given ∧ f.t 14 = vi given.length ∧ f.t 15 = vi i ∧ f.d = [] ∧
    h = [.cells [.nilm], .cells [.bool false], .map (ks.map vi) (heldT ks), .cells [.lm 2], .cells [.fn (.func 46) [] [.lp 3 0]]] ∧ Good l given (given.take i) ks) given.length ⟨0, [], by simp, rfl, rfl, rfl, rfl, rfl, rfl, rfl, rfl, rfl, rfl, rfl, ⟨by simp, by simp, by simp, by simp, by simp⟩⟩ ?_
  rintro m f h ⟨i, ks, hm, h0, h1, h4, h5, h6, h7, h13, h14, h15, hd, rfl, hgood⟩
  refine vc_ok mixed _ _ _ _ ?_
  simp only [sa0.down, sa1.down, sa2.down, sa3.down, sa4.down, sb0.down, sb1.down, sb2.down, sb3.down, ↓reduceIte, Nat.reduceEqDiff, Nat.reduceLT, Nat.reduceLeDiff, Nat.reduceAdd, Nat.reduceSub, Int.reduceToNat, Nat.reduceDiv, Int.reduceLT, Int.reduceLE, Int.reduceNeg, Int.reduceBEq, Int.reduceBNe, Int.reduceAdd, Int.reduceSub, Nat.reduceBEq, reduceCtorEq, Nat.reduceMul, TEP, tis, ens, nts, Try.results24, h0, h1, h4, h5, h6, h7, h13, h14, h15, hd]
  refine vcB.mk (fun hc => ?_) (fun hc => ?_)
  · simp only [decide_eq_true_eq, Int.ofNat_lt] at hc
    have hrg := hg _ (List.getElem_mem hc)
    simp only [sa0.down, sa1.down, sa2.down, sa3.down, sa4.down, sb0.down, sb1.down, sb2.down, sb3.down, ↓reduceIte, Nat.reduceEqDiff, Nat.reduceLT, Nat.reduceLeDiff, Nat.reduceAdd, Nat.reduceSub, Int.reduceToNat, Nat.reduceDiv, Int.reduceLT, Int.reduceLE, Int.reduceNeg, Int.reduceBEq, Int.reduceBNe, Int.reduceAdd, Int.reduceSub, Nat.reduceBEq, reduceCtorEq, Nat.reduceMul, TEP, tis, ens, nts, Try.results24, h0, h1, h4, h5, h6, h7, h13, h14, h15, hd, getI hc]
    refine ⟨⟨by omega, by omega⟩, let_calls given[i] ⟨hrg.1, hrg.2.1⟩ ks _ _ _ _ ?_⟩
    simp only [sa0.down, sa1.down, sa2.down, sa3.down, sa4.down, sb0.down, sb1.down, sb2.down, sb3.down, ↓reduceIte, Nat.reduceEqDiff, Nat.reduceLT, Nat.reduceLeDiff, Nat.reduceAdd, Nat.reduceSub, Int.reduceToNat, Nat.reduceDiv, Int.reduceLT, Int.reduceLE, Int.reduceNeg, Int.reduceBEq, Int.reduceBNe, Int.reduceAdd, Int.reduceSub, Nat.reduceBEq, reduceCtorEq, Nat.reduceMul, TEP, tis, ens, nts, Try.results24, h0, h1, h4, h5, h6, h7, h13, h14, h15, hd]
    refine vcB.mk (fun hb => ?_) (fun hb => ?_)
    · simp only [sa0.down, sa1.down, sa2.down, sa3.down, sa4.down, sb0.down, sb1.down, sb2.down, sb3.down, ↓reduceIte, Nat.reduceEqDiff, Nat.reduceLT, Nat.reduceLeDiff, Nat.reduceAdd, Nat.reduceSub, Int.reduceToNat, Nat.reduceDiv, Int.reduceLT, Int.reduceLE, Int.reduceNeg, Int.reduceBEq, Int.reduceBNe, Int.reduceAdd, Int.reduceSub, Nat.reduceBEq, reduceCtorEq, Nat.reduceMul, TEP, tis, ens, nts, Try.results24, h0, h1, h4, h5, h6, h7, h13, h14, h15, hd]
      exact ⟨_, .inr ⟨rfl, bad_let hrg.2.2 (List.getElem_mem hc) hgood (by simpa using hb)⟩, Reif.dat rfl⟩
    · have hnext := good_let hrg (List.getElem_mem hc) hgood (by simpa using hb)
      have htake : given.take (i + 1) = given.take i ++ [given[i]] := by
        rw [List.take_add_one]; simp [hc]
      rw [← htake] at hnext
      simp only [sa0.down, sa1.down, sa2.down, sa3.down, sa4.down, sb0.down, sb1.down, sb2.down, sb3.down, ↓reduceIte, Nat.reduceEqDiff, Nat.reduceLT, Nat.reduceLeDiff, Nat.reduceAdd, Nat.reduceSub, Int.reduceToNat, Nat.reduceDiv, Int.reduceLT, Int.reduceLE, Int.reduceNeg, Int.reduceBEq, Int.reduceBNe, Int.reduceAdd, Int.reduceSub, Nat.reduceBEq, reduceCtorEq, Nat.reduceMul, TEP, tis, ens, nts, Try.results24, h0, h1, h4, h5, h6, h7, h13, h14, h15, hd, wrap_succ (show i < maxLen by omega)]
      exact .inl ⟨m - 1, by omega, i + 1, _, by omega, h0, h1, h4, h5, h6, h7, h13, h14, rfl, hd, rfl, hnext⟩
  · simp only [decide_eq_false_iff_not, Int.ofNat_lt] at hc
    rw [List.take_of_length_le (by omega)] at hgood
    simp only [sa0.down, sa1.down, sa2.down, sa3.down, sa4.down, sb0.down, sb1.down, sb2.down, sb3.down, ↓reduceIte, Nat.reduceEqDiff, Nat.reduceLT, Nat.reduceLeDiff, Nat.reduceAdd, Nat.reduceSub, Int.reduceToNat, Nat.reduceDiv, Int.reduceLT, Int.reduceLE, Int.reduceNeg, Int.reduceBEq, Int.reduceBNe, Int.reduceAdd, Int.reduceSub, Nat.reduceBEq, reduceCtorEq, Nat.reduceMul, TEP, tis, ens, nts, Try.results24, h0, h1, h4, h5, h6, h7, h13, h14, h15, hd]
    refine goOn_calls l ks _ _ _ _ ?_
    simp only [sa0.down, sa1.down, sa2.down, sa3.down, sa4.down, sb0.down, sb1.down, sb2.down, sb3.down, ↓reduceIte, Nat.reduceEqDiff, Nat.reduceLT, Nat.reduceLeDiff, Nat.reduceAdd, Nat.reduceSub, Int.reduceToNat, Nat.reduceDiv, Int.reduceLT, Int.reduceLE, Int.reduceNeg, Int.reduceBEq, Int.reduceBNe, Int.reduceAdd, Int.reduceSub, Nat.reduceBEq, reduceCtorEq, Nat.reduceMul, TEP, tis, ens, nts, Try.results24, h0, h1, h4, h5, h6, h7, h13, h14, h15, hd]
    have hl2 : ∀ c ∈ l, ∀ a ∈ c, -20000 ≤ a ∧ a ≤ 20000 := fun c hc a ha => ⟨(hl c hc a ha).1, (hl c hc a ha).2.1⟩
    refine awp_rangeG (n := 33) (q := 60) (first := []) (captured := [.lp 6 0, .lp 5 0]) (by simp only [sa0.down, sa1.down, sa2.down, sa3.down, sa4.down, sb0.down, sb1.down, sb2.down, sb3.down, ↓reduceIte, Nat.reduceEqDiff, Nat.reduceLT, Nat.reduceLeDiff, Nat.reduceAdd, Nat.reduceSub, Int.reduceToNat, Nat.reduceDiv, Int.reduceLT, Int.reduceLE, Int.reduceNeg, Int.reduceBEq, Int.reduceBNe, Int.reduceAdd, Int.reduceSub, Nat.reduceBEq, reduceCtorEq, Nat.reduceMul, TEP, tis, ens, nts, Try.results24]) (by simp only [sa0.down, sa1.down, sa2.down, sa3.down, sa4.down, sb0.down, sb1.down, sb2.down, sb3.down, ↓reduceIte, Nat.reduceEqDiff, Nat.reduceLT, Nat.reduceLeDiff, Nat.reduceAdd, Nat.reduceSub, Int.reduceToNat, Nat.reduceDiv, Int.reduceLT, Int.reduceLE, Int.reduceNeg, Int.reduceBEq, Int.reduceBNe, Int.reduceAdd, Int.reduceSub, Nat.reduceBEq, reduceCtorEq, Nat.reduceMul, TEP, tis, ens, nts, Try.results24]) rfl (by decide) ?_
    intro L hLd gets
    refine ACalls.mono (goOn1_calls 8 2 5 6 _ l hl2 hlen ks (Good l given given)
      (fun ks h k => (∀ j, j < 9 → k j = false) ∧ ∃ t, t 4 = .lp 0 0 ∧ t 5 = .lp 1 0 ∧ t 7 = .lp 4 0 ∧ h = [.cells [.nilm], .cells [.bool false], .map (ks.map vi) (heldT ks), .cells [.lm 2], .cells [.fn (.func 46) [] [.lp 3 0]], .cells [.lm 2], .cells [cls l], .misc .dfd, L t .ready none])
      (fun j h k => (∀ j, j < 9 → k j = false) ∧ j = some .ret ∧ ∃ t ks, h = [.cells [.nilm], .cells [.bool false], .map (ks.map vi) (heldT ks), .cells [.lm 2], .cells [.fn (.func 46) [] [.lp 3 0]], .cells [.lm 2], .cells [cls l], .misc .dfd, L t .done (some .ret)])
      ?_ ?_ hgood ?_ ?_ ?_) ?_
    · rintro ks h k ⟨hk, t, _, _, _, rfl⟩
      exact ⟨rfl, rfl, rfl, hk _ (by omega), hk _ (by omega), hk _ (by omega)⟩
    · exact ⟨fun _ _ => rfl, _, by simp only [sa0.down, sa1.down, sa2.down, sa3.down, sa4.down, sb0.down, sb1.down, sb2.down, sb3.down, ↓reduceIte, Nat.reduceEqDiff, Nat.reduceLT, Nat.reduceLeDiff, Nat.reduceAdd, Nat.reduceSub, Int.reduceToNat, Nat.reduceDiv, Int.reduceLT, Int.reduceLE, Int.reduceNeg, Int.reduceBEq, Int.reduceBNe, Int.reduceAdd, Int.reduceSub, Nat.reduceBEq, reduceCtorEq, Nat.reduceMul, TEP, tis, ens, nts, Try.results24, h4], by simp only [sa0.down, sa1.down, sa2.down, sa3.down, sa4.down, sb0.down, sb1.down, sb2.down, sb3.down, ↓reduceIte, Nat.reduceEqDiff, Nat.reduceLT, Nat.reduceLeDiff, Nat.reduceAdd, Nat.reduceSub, Int.reduceToNat, Nat.reduceDiv, Int.reduceLT, Int.reduceLE, Int.reduceNeg, Int.reduceBEq, Int.reduceBNe, Int.reduceAdd, Int.reduceSub, Nat.reduceBEq, reduceCtorEq, Nat.reduceMul, TEP, tis, ens, nts, Try.results24, h5], by simp only [sa0.down, sa1.down, sa2.down, sa3.down, sa4.down, sb0.down, sb1.down, sb2.down, sb3.down, ↓reduceIte, Nat.reduceEqDiff, Nat.reduceLT, Nat.reduceLeDiff, Nat.reduceAdd, Nat.reduceSub, Int.reduceToNat, Nat.reduceDiv, Int.reduceLT, Int.reduceLE, Int.reduceNeg, Int.reduceBEq, Int.reduceBNe, Int.reduceAdd, Int.reduceSub, Nat.reduceBEq, reduceCtorEq, Nat.reduceMul, TEP, tis, ens, nts, Try.results24, h7], rfl⟩
    · intro ks c hg hc hn
      exact good_step hl hg hc hn
    · rintro ks h k a hk ⟨hk9, t, ht4, ht5, ht7, rfl⟩ ha0 ha1 ha2 har
      obtain ⟨e1, e2⟩ := let_new ha0 ha1 ha2
      refine gets _ _ _ t rfl rfl (fun lb => ?_)
      refine vc_ok mixed _ _ _ _ ?_
      simp only [sa0.down, sa1.down, sa2.down, sa3.down, sa4.down, sb0.down, sb1.down, sb2.down, sb3.down, ↓reduceIte, Nat.reduceEqDiff, Nat.reduceLT, Nat.reduceLeDiff, Nat.reduceAdd, Nat.reduceSub, Int.reduceToNat, Nat.reduceDiv, Int.reduceLT, Int.reduceLE, Int.reduceNeg, Int.reduceBEq, Int.reduceBNe, Int.reduceAdd, Int.reduceSub, Nat.reduceBEq, reduceCtorEq, Nat.reduceMul, TEP, tis, ens, nts, Try.results24, ht4, ht5, ht7, beginG]
      refine ⟨t, rfl, ?_⟩
      refine vc_ok mixed _ _ _ _ ?_
      simp only [sa0.down, sa1.down, sa2.down, sa3.down, sa4.down, sb0.down, sb1.down, sb2.down, sb3.down, ↓reduceIte, Nat.reduceEqDiff, Nat.reduceLT, Nat.reduceLeDiff, Nat.reduceAdd, Nat.reduceSub, Int.reduceToNat, Nat.reduceDiv, Int.reduceLT, Int.reduceLE, Int.reduceNeg, Int.reduceBEq, Int.reduceBNe, Int.reduceAdd, Int.reduceSub, Nat.reduceBEq, reduceCtorEq, Nat.reduceMul, TEP, tis, ens, nts, Try.results24, ht4, ht5, ht7]
      refine let_calls a har ks _ _ _ _ ?_
      simp only [sa0.down, sa1.down, sa2.down, sa3.down, sa4.down, sb0.down, sb1.down, sb2.down, sb3.down, ↓reduceIte, Nat.reduceEqDiff, Nat.reduceLT, Nat.reduceLeDiff, Nat.reduceAdd, Nat.reduceSub, Int.reduceToNat, Nat.reduceDiv, Int.reduceLT, Int.reduceLE, Int.reduceNeg, Int.reduceBEq, Int.reduceBNe, Int.reduceAdd, Int.reduceSub, Nat.reduceBEq, reduceCtorEq, Nat.reduceMul, TEP, tis, ens, nts, Try.results24, ht4, ht5, ht7, e1, e2, roundG, XE.jump]
      exact ⟨t, _, rfl, hk9, t, ht4, ht5, ht7, rfl⟩
    · rintro ks h k hk ⟨hk9, t, ht4, ht5, ht7, rfl⟩
      refine gets _ _ _ t rfl rfl (fun lb => ?_)
      refine vc_ok mixed _ _ _ _ ?_
      simp only [sa0.down, sa1.down, sa2.down, sa3.down, sa4.down, sb0.down, sb1.down, sb2.down, sb3.down, ↓reduceIte, Nat.reduceEqDiff, Nat.reduceLT, Nat.reduceLeDiff, Nat.reduceAdd, Nat.reduceSub, Int.reduceToNat, Nat.reduceDiv, Int.reduceLT, Int.reduceLE, Int.reduceNeg, Int.reduceBEq, Int.reduceBNe, Int.reduceAdd, Int.reduceSub, Nat.reduceBEq, reduceCtorEq, Nat.reduceMul, TEP, tis, ens, nts, Try.results24, ht4, ht5, ht7, beginG]
      refine ⟨t, rfl, ?_⟩
      refine vc_ok mixed _ _ _ _ ?_
      simp only [sa0.down, sa1.down, sa2.down, sa3.down, sa4.down, sb0.down, sb1.down, sb2.down, sb3.down, ↓reduceIte, Nat.reduceEqDiff, Nat.reduceLT, Nat.reduceLeDiff, Nat.reduceAdd, Nat.reduceSub, Int.reduceToNat, Nat.reduceDiv, Int.reduceLT, Int.reduceLE, Int.reduceNeg, Int.reduceBEq, Int.reduceBNe, Int.reduceAdd, Int.reduceSub, Nat.reduceBEq, reduceCtorEq, Nat.reduceMul, TEP, tis, ens, nts, Try.results24, ht4, ht5, ht7]
      refine let_calls 0 (by omega) ks _ _ _ _ ?_
      have e1 : letOk ks 0 = false := rfl
      simp only [sa0.down, sa1.down, sa2.down, sa3.down, sa4.down, sb0.down, sb1.down, sb2.down, sb3.down, ↓reduceIte, Nat.reduceEqDiff, Nat.reduceLT, Nat.reduceLeDiff, Nat.reduceAdd, Nat.reduceSub, Int.reduceToNat, Nat.reduceDiv, Int.reduceLT, Int.reduceLE, Int.reduceNeg, Int.reduceBEq, Int.reduceBNe, Int.reduceAdd, Int.reduceSub, Nat.reduceBEq, reduceCtorEq, Nat.reduceMul, TEP, tis, ens, nts, Try.results24, ht4, ht5, ht7, e1, roundG, XE.jump]
      exact ⟨t, _, rfl, hk9, t, addI ks 0, rfl⟩
    · rintro ae h' p ⟨hp, hr⟩
      cases ae with
      | pan v => exact hr.elim
      | ret v =>
        rcases hr with ⟨ks, ⟨hk9, t, ht4, ht5, ht7, rfl⟩, hgd, hcl⟩ | ⟨⟨ks1, c, hgd, hcm, hbad⟩, j, hk9, rfl, t, ks, rfl⟩
        · refine ⟨?_, hp, t, _, none, (by decide), rfl, ?_⟩
          · intro i hi
            have hi : i = 7 := by simpa [put_d, hd] using hi
            subst hi
            exact hk9 7 (by omega)
          · have k0 := hk9 0 (by omega)
            have k1 := hk9 1 (by omega)
            have k3 := hk9 3 (by omega)
            have k7 := hk9 7 (by omega)
            simp only [sa0.down, sa1.down, sa2.down, sa3.down, sa4.down, sb0.down, sb1.down, sb2.down, sb3.down, ↓reduceIte, Nat.reduceEqDiff, Nat.reduceLT, Nat.reduceLeDiff, Nat.reduceAdd, Nat.reduceSub, Int.reduceToNat, Nat.reduceDiv, Int.reduceLT, Int.reduceLE, Int.reduceNeg, Int.reduceBEq, Int.reduceBNe, Int.reduceAdd, Int.reduceSub, Nat.reduceBEq, reduceCtorEq, Nat.reduceMul, TEP, tis, ens, nts, Try.results24, h0, h1, h4, h5, h6, h7, h13, h14, h15, hd, jumpQ, k0, k1, k3, k7]
            exact ⟨_, .inl ⟨ks, rfl, fin_of (fun c hc b hb => (hl c hc b hb).2.2) hgd hcl⟩, Reif.tup (Reifs.cons (Reif.lm rfl (Reifs.dat (dats_vi _)) (Reifs.dat (dats_heldT _))) (Reifs.dat rfl))⟩
        · refine ⟨?_, hp, t, _, some .ret, (by decide), rfl, ?_⟩
          · intro i hi
            have hi : i = 7 := by simpa [put_d, hd] using hi
            subst hi
            exact hk9 7 (by omega)
          · have k0 := hk9 0 (by omega)
            have k1 := hk9 1 (by omega)
            have k3 := hk9 3 (by omega)
            have k7 := hk9 7 (by omega)
            simp only [sa0.down, sa1.down, sa2.down, sa3.down, sa4.down, sb0.down, sb1.down, sb2.down, sb3.down, ↓reduceIte, Nat.reduceEqDiff, Nat.reduceLT, Nat.reduceLeDiff, Nat.reduceAdd, Nat.reduceSub, Int.reduceToNat, Nat.reduceDiv, Int.reduceLT, Int.reduceLE, Int.reduceNeg, Int.reduceBEq, Int.reduceBNe, Int.reduceAdd, Int.reduceSub, Nat.reduceBEq, reduceCtorEq, Nat.reduceMul, TEP, tis, ens, nts, Try.results24, h0, h1, h4, h5, h6, h7, h13, h14, h15, hd, jumpQ, k0, k1, k3, k7]
            exact ⟨_, .inr ⟨rfl, .inl ⟨c, hcm, fun b hb => hgd.der _ ((unitF_bad hbad fun b hb => (hl c hcm b hb).2.2).2 b hb)⟩⟩, Reif.dat rfl⟩

end Go.Proofs.Ytegnjoonhabicaa
