/- Functions of the program, part 02. -/
import Derived.Test.YtajcfppemkdomaaF01
import Derived.Test.YtajcfppemkdomaaA9
set_option linter.unusedVariables false
set_option linter.unusedSimpArgs false
set_option linter.unnecessarySimpa false
namespace Go.Proofs.Ytajcfppemkdomaa
open Go Go.Proofs Go.Abs

/-- How many literals do not hold yet. -/
def many (l : List Cl) (ks : Cl) : Nat := (l.flatten.filter fun a => !ks.contains a).length

theorem filter_lt {α : Type} {p q : α → Bool} : ∀ {l : List α}, (∀ x, q x = true → p x = true) → (∃ x ∈ l, p x = true ∧ q x = false) → (l.filter q).length < (l.filter p).length
  | [], _, ⟨x, hx, _⟩ => by cases hx
  | y :: l, hq, ⟨x, hx, h1, h2⟩ => by
    have hle : (l.filter q).length ≤ (l.filter p).length := by
      clear hx
      induction l with
      | nil => simp
      | cons z l ih =>
        simp only [List.filter_cons]
        cases hz : q z with
        | true => simp [hq z hz]; exact ih
        | false =>
          cases p z <;> simp <;> omega
    simp only [List.filter_cons]
    by_cases hxy : x = y
    · subst hxy
      simp [h1, h2]; omega
    · have hm : x ∈ l := by cases hx with | head => exact absurd rfl hxy | tail _ h => exact h
      have := filter_lt (l := l) hq ⟨x, hm, h1, h2⟩
      cases hz : q y with
      | true => simp [hq y hz]; exact this
      | false => cases p y <;> simp <;> omega

theorem many_lt {l : List Cl} {ks : Cl} {a : Int} {c : Cl} (hc : c ∈ l) (ha : a ∈ c) (hn : ¬ a ∈ ks) : many l (ks ++ [a]) < many l ks := by
  refine filter_lt (fun x hx => ?_) ⟨a, List.mem_flatten.2 ⟨c, hc, ha⟩, by simp [hn], by simp⟩
  simp only [Bool.not_eq_true', List.contains_eq_mem, decide_eq_false_iff_not, List.mem_append, not_or] at hx ⊢
  exact hx.1

/-- What the one literal is. -/
theorem unitF_mem {ks : Cl} : ∀ {c : Cl} {one : Int}, (unitF ks one c).1 ≠ 0 → (one ≠ 0 → ¬ one ∈ ks ∧ ¬ -one ∈ ks) → ((unitF ks one c).1 = one ∨ (unitF ks one c).1 ∈ c) ∧ ¬ (unitF ks one c).1 ∈ ks ∧ ¬ -(unitF ks one c).1 ∈ ks ∧ (unitF ks one c).2 = false
  | [], one, h, ho => by
    simp only [unitF] at h ⊢
    exact ⟨.inl trivial, (ho h).1, (ho h).2, by simpa using h⟩
  | a :: c, one, h, ho => by
    unfold unitF at h ⊢
    split at h
    · exact absurd rfl h
    · rename_i hh
      rw [if_neg hh]
      have hna : ¬ a ∈ ks := by intro hm; apply hh; simp [hm]
      split at h
      · rename_i h2
        rw [if_pos h2]
        obtain ⟨h3, h4⟩ := unitF_mem (c := c) h ho
        refine ⟨?_, h4⟩
        rcases h3 with h3 | h3
        · exact .inl h3
        · exact .inr (List.mem_cons_of_mem _ h3)
      · rename_i h2
        rw [if_neg h2]
        obtain ⟨h3, h4⟩ := unitF_mem (c := c) h (fun _ => ⟨hna, by simpa using h2⟩)
        refine ⟨.inr ?_, h4⟩
        rcases h3 with h3 | h3
        · rw [h3]; exact List.mem_cons_self
        · exact List.mem_cons_of_mem _ h3

theorem dats_vi : ∀ l : Cl, V.dats (l.map vi) = true
  | [] => rfl
  | a :: l => by simp only [List.map_cons, V.dats, V.dat, dats_vi l, Bool.and_self]
theorem dats_heldT : ∀ l : Cl, V.dats (heldT l) = true
  | [] => rfl
  | a :: l => by
    have := dats_heldT l
    simp only [heldT] at this
    simp only [heldT, List.map_cons, V.dats, V.dat, this, Bool.and_self]

theorem unitF_zero {ks c : Cl} (h : (unitF ks 0 c).1 = 0) (h2 : (unitF ks 0 c).2 = false) : unitF ks 0 c = (0, false) := Prod.ext h h2

theorem goOn1_calls (id pm pc pl : Nat) (h : H) (l : List Cl) (hl : ∀ c ∈ l, ∀ a ∈ c, -20000 ≤ a ∧ a ≤ 20000) (hlen : l.length ≤ maxLen) (ks0 : Cl) (Good : Cl → Prop)
    (I : Cl → H → (Nat → Bool) → Prop) (Stop : Option Code → H → (Nat → Bool) → Prop)
    (hI : ∀ ks h k, I ks h k → h[pm]? = some (.map (ks.map vi) (heldT ks)) ∧ h[pc]? = some (.cells [.lm pm]) ∧ h[pl]? = some (.cells [cls l]) ∧ k pm = false ∧ k pc = false ∧ k pl = false)
    (h0 : I ks0 h (fun _ => false)) (g0 : Good ks0)
    (good : ∀ ks c, Good ks → c ∈ l → (unitF ks 0 c).1 ≠ 0 → Good (ks ++ [(unitF ks 0 c).1]))
    (step : ∀ ks h' k a, k id = false → I ks h' k → a ≠ 0 → ¬ a ∈ ks → ¬ -a ∈ ks → (-20000 ≤ a ∧ a ≤ 20000) → Gets TE id [vi a] h' fun j h'' p => j = none ∧ I (ks ++ [a]) h'' (fun i => k i || p i))
    (bad : ∀ ks h' k, k id = false → I ks h' k → Gets TE id [vi 0] h' fun j h'' p => Stop j h'' (fun i => k i || p i)) :
    ACalls TE 81 ([] ++ [.yd id] ++ [.lp pl 0, .lp pc 0]) h fun ae h' p => p id = false ∧ match ae with
      | .ret _ => (∃ ks, I ks h' p ∧ Good ks ∧ ∀ c ∈ l, unitF ks 0 c = (0, false)) ∨ ((∃ ks c, Good ks ∧ c ∈ l ∧ (unitF ks 0 c).2 = true) ∧ ∃ j, Stop j h' p)
      | .pan _ => False := by
  refine ACalls.of_awp Try.func81 rfl (by simp [nts]) (vc_ok mixed _ _ _ _ ?_)
  simp only [sz.down, Nat.reduceLT, TEP, nts, Try.results81]
  refine awp_loop (fun m f h => ∃ ks ag, many l ks + (if ag = true then 1 else 0) = m ∧ f.t 0 = .yd id ∧ f.t 1 = .lp pl 0 ∧ f.t 2 = .lp pc 0 ∧ f.t 4 = .bool ag ∧ f.d = [] ∧ f.k id = false ∧ I ks h f.k ∧ Good ks ∧ (ag = false → ∀ c ∈ l, unitF ks 0 c = (0, false))) (many l ks0 + 1) ⟨ks0, true, rfl, rfl, rfl, rfl, rfl, rfl, rfl, h0, g0, by simp⟩ ?_
  rintro m f h ⟨ks, ag, hm, h0, h1, h2, h4, hd, hk, hIk, hg, hag⟩
  obtain ⟨i1, i2, i3, i4, i5, i6⟩ := hI _ _ _ hIk
  refine vc_ok mixed _ _ _ _ ?_
  simp only [sz.down, ↓reduceIte, Nat.reduceLT, TEP, h4]
  refine vcB.mk (fun hc => ?_) (fun hc => ?_)
  · subst hc
    simp only [sz.down, ↓reduceIte, Nat.reduceEqDiff, Nat.reduceLT, TEP, tis, h1, i3]
    refine awp_loop (fun m2 f h => ∃ i ks' ag', m2 + i = l.length ∧ f.t 0 = .yd id ∧ f.t 1 = .lp pl 0 ∧ f.t 2 = .lp pc 0 ∧ f.t 4 = .bool ag' ∧ f.t 10 = cls l ∧ f.t 11 = vi l.length ∧ f.t 12 = vi i ∧ f.d = [] ∧ f.k id = false ∧ I ks' h f.k ∧ Good ks' ∧ many l ks' + (if ag' = true then 1 else 0) ≤ many l ks ∧ (ag' = false → ∀ c ∈ l.take i, unitF ks' 0 c = (0, false))) l.length ⟨0, ks, false, by simp, h0, h1, h2, rfl, rfl, rfl, rfl, hd, hk, hIk, hg, by simp, by simp⟩ ?_
    rintro m2 f h ⟨i, ks', ag', hm2, h0, h1, h2, h4, h10, h11, h12, hd, hk, hIk, hg, hmany, hag⟩
    obtain ⟨i1, i2, i3, i4, i5, i6⟩ := hI _ _ _ hIk
    refine vc_ok mixed _ _ _ _ ?_
    simp only [sz.down, ↓reduceIte, Nat.reduceLT, TEP, h11, h12]
    refine vcB.mk (fun hc => ?_) (fun hc => ?_)
    · simp only [decide_eq_true_eq, Int.ofNat_lt] at hc
      simp only [sz.down, ↓reduceIte, Nat.reduceEqDiff, Nat.reduceLT, TEP, tis, ens, h2, h10, h12, i2, getC hc]
      refine ⟨⟨by omega, by omega⟩, ACalls.lend (ev_unit ks' l[i] (hl _ (List.getElem_mem _))) (Reifs.cons (Reif.lm i1 (Reifs.dat (dats_vi _)) (Reifs.dat (dats_heldT _))) (Reifs.cons (Reif.dat (by simp only [V.dat])) Reifs.nil)) rfl ?_⟩
      simp only [sz.down, ↓reduceIte, Nat.reduceEqDiff, Nat.reduceLT, Nat.reduceAdd, TEP]
      refine vcB.mk (fun hb => ?_) (fun hb => ?_)
      · have hy := bad ks' h f.k hk hIk
        obtain ⟨t, n', ps, asg, body, pend, hL, hsz, hps, hw⟩ := hy
        simp only [sz.down, ↓reduceIte, Nat.reduceLT, reduceCtorEq, TEP, TEtl, h0, hL]
        refine ⟨⟨by simpa using hsz, hps⟩, yieldK_of hw ?_⟩
        intro j h' p hp hS
        refine ⟨by simp [put_d, hd], ?_⟩
        simp only [sz.down, hd, hp, hk]
        exact .inr ⟨⟨ks', l[i], hg, List.getElem_mem _, hb⟩, j, hS⟩
      · simp only [sz.down, ↓reduceIte, Nat.reduceEqDiff, Nat.reduceLT, TEP]
        refine vcB.mk (fun hn => ?_) (fun hn => ?_)
        · have hn : (unitF ks' 0 l[i]).1 ≠ 0 := by simpa using hn
          obtain ⟨u1, u2, u3, u4⟩ := unitF_mem hn (by simp)
          have u1 : (unitF ks' 0 l[i]).1 ∈ l[i] := by
            rcases u1 with u1 | u1
            · exact absurd u1 hn
            · exact u1
          have hy := step ks' h f.k _ hk hIk hn u2 u3 (hl _ (List.getElem_mem _) _ u1)
          have hlt := many_lt (List.getElem_mem hc) u1 u2
          have hgood := good ks' l[i] hg (List.getElem_mem _) hn
          obtain ⟨t, n', ps, asg, body, pend, hL, hsz, hps, hw⟩ := hy
          simp only [sz.down, ↓reduceIte, Nat.reduceEqDiff, Nat.reduceLT, reduceCtorEq, TEP, TEtl, h0, hL]
          refine ⟨⟨by simpa using hsz, hps⟩, yieldK_of hw ?_⟩
          rintro j h' p hp ⟨rfl, hS⟩
          obtain ⟨_, _, _, j4, j5, j6⟩ := hI _ _ _ hS
          have j5 : p pc = false := by simpa [i5] using j5
          have j6 : p pl = false := by simpa [i6] using j6
          refine ⟨by simp [put_d, hd], ?_⟩
          simp only [sz.down, ↓reduceIte, Nat.reduceEqDiff, Nat.reduceLT, TEP, h12, Option.isNone_none, wrap_succ (show i < maxLen by omega)]
          refine .inl ⟨m2 - 1, by omega, i + 1, _, true, by omega, by simp only [sz.down, ↓reduceIte, reduceCtorEq, h0, hp], by simp only [sz.down, ↓reduceIte, Nat.reduceEqDiff, h1, j6], by simp only [sz.down, ↓reduceIte, Nat.reduceEqDiff, h2, j5], by simp only [sz.down, ↓reduceIte, Nat.reduceEqDiff], by simp only [sz.down, ↓reduceIte, Nat.reduceEqDiff, h10], by simp only [sz.down, ↓reduceIte, Nat.reduceEqDiff, h11], by simp only [sz.down, ↓reduceIte], by simp only [sz.down, hd], by simp only [sz.down, hk, hp], by simp only [sz.down]; exact hS, hgood, ?_, by simp⟩
          simp only [if_true]
          omega
        · have hn : (unitF ks' 0 l[i]).1 = 0 := by simpa using hn
          simp only [sz.down, ↓reduceIte, Nat.reduceEqDiff, Nat.reduceLT, TEP, h12, wrap_succ (show i < maxLen by omega)]
          exact .inl ⟨m2 - 1, by omega, i + 1, ks', ag', by omega, h0, h1, h2, h4, h10, h11, rfl, hd, hk, hIk, hg, hmany, fun ha => mem_take_succ hc (hag ha) (unitF_zero hn hb)⟩
    · simp only [decide_eq_false_iff_not, Int.ofNat_lt] at hc
      simp only [sz.down]
      refine .inl ⟨many l ks' + (if ag' = true then 1 else 0), ?_, ks', ag', rfl, h0, h1, h2, h4, hd, hk, hIk, hg, fun ha => ?_⟩
      · simp only [if_true] at hm
        omega
      · have := hag ha
        rw [List.take_of_length_le (by omega)] at this
        exact this
  · subst hc
    simp only [sz.down, hd, hk]
    exact .inl ⟨ks, hIk, hg, hag rfl⟩

end Go.Proofs.Ytajcfppemkdomaa

set_option linter.unusedVariables false
set_option linter.unusedSimpArgs false
set_option linter.unnecessarySimpa false
namespace Go.Proofs.Ytajcfppemkdomaa
open Go Go.Proofs Go.Abs

/-- With one more. -/
def addI (ks : Cl) (a : Int) : Cl := if a ∈ ks then ks else ks ++ [a]

theorem mputI (a : Int) (ks : Cl) : mput (.int .i64) (vi a) (.bool true) (ks.map vi) (heldT ks) = some ((addI ks a).map vi, heldT (addI ks a)) := by
  unfold mput addI
  rw [mfindI]
  cases h : ks.findIdx? (· == a) with
  | none =>
    have hn : ¬ a ∈ ks := by
      intro hm
      have := List.findIdx?_eq_none_iff.1 h a hm
      simp at this
    simp [hn, heldT]
  | some n =>
    obtain ⟨h1, h2, _⟩ := List.findIdx?_eq_some_iff_getElem.1 h
    have h2 : ks[n] = a := by simpa using h2
    have hm : a ∈ ks := h2 ▸ List.getElem_mem h1
    rw [if_pos hm]
    have e1 : (ks.map vi).set n (vi a) = ks.map vi := by rw [← List.map_set, ← h2, List.set_getElem_self]
    have e2 : (heldT ks).set n (.bool true) = heldT ks := by
      refine List.ext_getElem (by simp) fun i h1 h2 => ?_
      rw [List.getElem_set]
      split <;> simp
    simp only [e1, e2]

/-- What 'let' tells. -/
def letOk (ks : Cl) (a : Int) : Bool := a != 0 && !((addI ks a).contains (-a))

theorem let_calls (a : Int) (ha : -20000 ≤ a ∧ a ≤ 20000) (ks : Cl) (o0 o1 : O) (tl : H) (R : AEnd → H → (Nat → Bool) → Prop)
    (hr : R (.ret (.bool (letOk ks a))) (o0 :: o1 :: .map ((addI ks a).map vi) (heldT (addI ks a)) :: .cells [.lm 2] :: tl) (fun _ => false)) :
    ACalls TE 78 [vi a, .lp 3 0] (o0 :: o1 :: .map (ks.map vi) (heldT ks) :: .cells [.lm 2] :: tl) R := by
  refine ACalls.of_awp Try.func78 rfl (by simp [nts]) (vc_ok mixed _ _ _ _ ?_)
  simp only [sz.down, ↓reduceIte, Nat.reduceEqDiff, Nat.reduceLT, reduceCtorEq, TEP, tis, nts, Try.results78, mputI, K.keyOk, mgetI, wrapneg ha]
  exact hr

theorem goOn_calls (l : List Cl) (ks : Cl) (o0 o1 o4 : O) (R : AEnd → H → (Nat → Bool) → Prop)
    (hr : R (.ret (.fn (.func 81) [] [.lp 6 0, .lp 5 0])) [o0, o1, .map (ks.map vi) (heldT ks), .cells [.lm 2], o4, .cells [.lm 2], .cells [cls l]] (fun _ => false)) :
    ACalls TE 79 [.lm 2, cls l] [o0, o1, .map (ks.map vi) (heldT ks), .cells [.lm 2], o4] R := by
  refine ACalls.of_awp Try.func79 rfl (by simp [nts]) (vc_ok mixed _ _ _ _ ?_)
  simp only [sz.down, ↓reduceIte, Nat.reduceEqDiff, Nat.reduceLT, Nat.reduceAdd, TEP, nts, Try.results79]
  exact hr

/-! ### What follows -/
inductive Der (l : List Cl) (given : Cl) : Int → Prop
  | start (a : Int) : a ∈ given → Der l given a
  | unit (c : Cl) (a : Int) : c ∈ l → a ∈ c → (∀ b ∈ c, b ≠ a → Der l given (-b)) → Der l given a

def Bad (l : List Cl) (given : Cl) : Prop := (∃ c ∈ l, ∀ b ∈ c, Der l given (-b)) ∨ ∃ a, Der l given a ∧ Der l given (-a)

structure Good (l : List Cl) (given g : Cl) (ks : Cl) : Prop where
  der : ∀ a ∈ ks, Der l given a
  all : ∀ a ∈ g, a ∈ ks
  con : ∀ a ∈ ks, ¬ -a ∈ ks
  rng : ∀ a ∈ ks, -20000 ≤ a ∧ a ≤ 20000 ∧ a ≠ 0
  nod : ks.Nodup

structure Fin (l : List Cl) (given ks : Cl) : Prop where
  iff : ∀ a, a ∈ ks ↔ Der l given a
  not : ¬ Bad l given
  rng : ∀ a ∈ ks, -20000 ≤ a ∧ a ≤ 20000 ∧ a ≠ 0
  nod : ks.Nodup

theorem unitF_one {ks : Cl} : ∀ {c : Cl} {one : Int}, one ≠ 0 → (unitF ks one c).1 ≠ 0 → (∀ b ∈ c, b ≠ 0) → (unitF ks one c).1 = one ∧ ∀ b ∈ c, b ≠ one → -b ∈ ks
  | [], one, h0, _, _ => ⟨rfl, by simp⟩
  | a :: c, one, h0, h, hz => by
    unfold unitF at h ⊢
    split at h
    · exact absurd rfl h
    · rename_i hh
      rw [if_neg hh]
      have hz2 : ∀ b ∈ c, b ≠ 0 := fun b hb => hz b (List.mem_cons_of_mem _ hb)
      split at h
      · rename_i h2
        rw [if_pos h2]
        obtain ⟨h3, h4⟩ := unitF_one (c := c) h0 h hz2
        refine ⟨h3, fun b hb hne => ?_⟩
        rcases List.mem_cons.1 hb with rfl | hb
        · simpa using h2
        · exact h4 b hb hne
      · rename_i h2
        rw [if_neg h2]
        have hao : a = one := by
          apply Classical.byContradiction
          intro hne
          apply hh
          have h5 : (one != 0) = true := bne_iff_ne.2 h0
          have h6 : (one != a) = true := bne_iff_ne.2 (fun h => hne h.symm)
          have h7 : ks.contains (-a) = false := by simpa using h2
          rw [h5, h6, h7]
          simp
        subst hao
        obtain ⟨h3, h4⟩ := unitF_one (c := c) h0 h hz2
        refine ⟨h3, fun b hb hne => ?_⟩
        rcases List.mem_cons.1 hb with rfl | hb
        · exact absurd rfl hne
        · exact h4 b hb hne

theorem unitF_rest {ks : Cl} : ∀ {c : Cl}, (unitF ks 0 c).1 ≠ 0 → (∀ b ∈ c, b ≠ 0) → ∀ b ∈ c, b ≠ (unitF ks 0 c).1 → -b ∈ ks
  | [], h, _ => by simp
  | a :: c, h, hz => by
    unfold unitF at h ⊢
    split at h
    · exact absurd rfl h
    · rename_i hh
      rw [if_neg hh]
      have hz2 : ∀ b ∈ c, b ≠ 0 := fun b hb => hz b (List.mem_cons_of_mem _ hb)
      split at h
      · rename_i h2
        rw [if_pos h2]
        intro b hb hne
        rcases List.mem_cons.1 hb with rfl | hb
        · simpa using h2
        · exact unitF_rest (c := c) h hz2 b hb hne
      · rename_i h2
        rw [if_neg h2]
        obtain ⟨h3, h4⟩ := unitF_one (c := c) (hz a List.mem_cons_self) h hz2
        intro b hb hne
        rw [h3] at hne
        rcases List.mem_cons.1 hb with rfl | hb
        · exact absurd rfl hne
        · exact h4 b hb hne

theorem unitF_bad {ks : Cl} : ∀ {c : Cl} {one : Int}, (unitF ks one c).2 = true → (∀ b ∈ c, b ≠ 0) → one = 0 ∧ ∀ b ∈ c, -b ∈ ks
  | [], one, h, _ => by
    simp only [unitF, beq_iff_eq] at h
    exact ⟨h, by simp⟩
  | a :: c, one, h, hz => by
    unfold unitF at h
    have hz2 : ∀ b ∈ c, b ≠ 0 := fun b hb => hz b (List.mem_cons_of_mem _ hb)
    split at h
    · cases h
    · split at h
      · rename_i h2
        obtain ⟨h3, h4⟩ := unitF_bad (c := c) h hz2
        refine ⟨h3, fun b hb => ?_⟩
        rcases List.mem_cons.1 hb with rfl | hb
        · simpa using h2
        · exact h4 b hb
      · exact absurd (unitF_bad (c := c) h hz2).1 (hz a List.mem_cons_self)

theorem unitF_no {ks : Cl} : ∀ {c : Cl} {one : Int}, unitF ks one c = (0, false) → (∀ b ∈ c, b ≠ 0) → (one ≠ 0 → ¬ -one ∈ ks) →
    (∃ a ∈ c, a ∈ ks) ∨ ∃ a ∈ c, ¬ -a ∈ ks ∧ ∃ b, ((b = one ∧ one ≠ 0) ∨ b ∈ c) ∧ b ≠ a ∧ ¬ -b ∈ ks
  | [], one, h, _, _ => by
    simp only [unitF, Prod.mk.injEq, beq_eq_false_iff_ne] at h
    exact absurd h.1 h.2
  | a :: c, one, h, hz, ho => by
    unfold unitF at h
    have hz2 : ∀ b ∈ c, b ≠ 0 := fun b hb => hz b (List.mem_cons_of_mem _ hb)
    split at h
    · rename_i hh
      simp only [Bool.or_eq_true, Bool.and_eq_true, bne_iff_ne, Bool.not_eq_true'] at hh
      rcases hh with hh | ⟨⟨h1, h2⟩, h3⟩
      · exact .inl ⟨a, List.mem_cons_self, by simpa using hh⟩
      · exact .inr ⟨a, List.mem_cons_self, by simpa using h3, one, .inl ⟨rfl, h1⟩, h2, ho h1⟩
    · split at h
      · rcases unitF_no (c := c) h hz2 ho with ⟨x, h1, h2⟩ | ⟨x, h1, h2, y, h3, h4⟩
        · exact .inl ⟨x, List.mem_cons_of_mem _ h1, h2⟩
        · refine .inr ⟨x, List.mem_cons_of_mem _ h1, h2, y, ?_, h4⟩
          rcases h3 with h3 | h3
          · exact .inl h3
          · exact .inr (List.mem_cons_of_mem _ h3)
      · rename_i h2
        have h2 : ¬ -a ∈ ks := by simpa using h2
        rcases unitF_no (c := c) h hz2 (fun _ => h2) with ⟨x, h1, h2⟩ | ⟨x, h1, h2, y, h3, h4⟩
        · exact .inl ⟨x, List.mem_cons_of_mem _ h1, h2⟩
        · refine .inr ⟨x, List.mem_cons_of_mem _ h1, h2, y, ?_, h4⟩
          rcases h3 with ⟨rfl, _⟩ | h3
          · exact .inr List.mem_cons_self
          · exact .inr (List.mem_cons_of_mem _ h3)

/-- What is closed is all that follows. -/
theorem let_new {ks : Cl} {a : Int} (h0 : a ≠ 0) (h1 : ¬ a ∈ ks) (h2 : ¬ -a ∈ ks) : letOk ks a = true ∧ addI ks a = ks ++ [a] := by
  have e : addI ks a = ks ++ [a] := by unfold addI; rw [if_neg h1]
  refine ⟨?_, e⟩
  have hb : (a != 0) = true := bne_iff_ne.2 h0
  have h3 : ¬ -a ∈ ks ++ [a] := by
    intro h
    rcases List.mem_append.1 h with h | h
    · exact h2 h
    · have : -a = a := by simpa using h
      omega
  unfold letOk
  rw [hb, e]
  simpa using h3

theorem fin_of {l : List Cl} {given ks : Cl} (hz : ∀ c ∈ l, ∀ b ∈ c, b ≠ 0) (hg : Good l given given ks) (hc : ∀ c ∈ l, unitF ks 0 c = (0, false)) : Fin l given ks := by
  have key : ∀ a, Der l given a → a ∈ ks := by
    intro a h
    induction h with
    | start a h => exact hg.all a h
    | unit c a h1 h2 h3 ih =>
      rcases unitF_no (hc c h1) (hz c h1) (by simp) with ⟨x, hx, hx2⟩ | ⟨x, hx, hx2, y, hy, hxy, hy2⟩
      · by_cases hxa : x = a
        · subst hxa; exact hx2
        · exact absurd (ih x hx hxa) (hg.con x hx2)
      · have hy : y ∈ c := by
          rcases hy with ⟨_, hy⟩ | hy
          · exact absurd rfl hy
          · exact hy
        by_cases hxa : x = a
        · subst hxa
          exact absurd (ih y hy hxy) hy2
        · exact absurd (ih x hx hxa) hx2
  refine ⟨fun a => ⟨hg.der a, key a⟩, ?_, hg.rng, hg.nod⟩
  rintro (⟨c, h1, h2⟩ | ⟨a, h1, h2⟩)
  · rcases unitF_no (hc c h1) (hz c h1) (by simp) with ⟨x, hx, hx2⟩ | ⟨x, hx, hx2, _⟩
    · exact hg.con x hx2 (key _ (h2 x hx))
    · exact hx2 (key _ (h2 x hx))
  · exact hg.con a (key _ h1) (key _ h2)

theorem good_step {l : List Cl} {given g ks c : Cl} (hz : ∀ c ∈ l, ∀ b ∈ c, -20000 ≤ b ∧ b ≤ 20000 ∧ b ≠ 0) (hg : Good l given g ks) (hc : c ∈ l) (hn : (unitF ks 0 c).1 ≠ 0) : Good l given g (ks ++ [(unitF ks 0 c).1]) := by
  obtain ⟨u1, u2, u3, _⟩ := unitF_mem hn (by simp)
  have u1 : (unitF ks 0 c).1 ∈ c := by
    rcases u1 with u1 | u1
    · exact absurd u1 hn
    · exact u1
  have hr := unitF_rest hn (fun b hb => (hz c hc b hb).2.2)
  generalize (unitF ks 0 c).1 = a at *
  refine ⟨?_, ?_, ?_, ?_, ?_⟩
  · intro x hx
    rcases List.mem_append.1 hx with hx | hx
    · exact hg.der x hx
    · have : x = a := by simpa using hx
      subst this
      exact .unit c x hc u1 fun b hb hne => hg.der _ (hr b hb hne)
  · intro x hx
    exact List.mem_append_left _ (hg.all x hx)
  · intro x hx hx2
    rcases List.mem_append.1 hx with hy | hy <;> rcases List.mem_append.1 hx2 with hy2 | hy2
    · exact hg.con x hy hy2
    · have : -x = a := by simpa using hy2
      apply u3
      rw [show -a = x by omega]
      exact hy
    · have : x = a := by simpa using hy
      rw [this] at hy2
      exact u3 hy2
    · have h1 : x = a := by simpa using hy
      have h2 : -x = a := by simpa using hy2
      have h3 : -a ∈ ks ++ [a] := by rw [h1] at hx2; exact hx2
      omega
  · intro x hx
    rcases List.mem_append.1 hx with hx | hx
    · exact hg.rng x hx
    · have : x = a := by simpa using hx
      subst this
      exact hz c hc x u1
  · rw [List.nodup_append]
    refine ⟨hg.nod, by simp, ?_⟩
    intro x hx y hy hxy
    simp only [List.mem_singleton] at hy
    subst hy; subst hxy
    exact u2 hx

theorem good_let {l : List Cl} {given g ks : Cl} {a : Int} (hr : -20000 ≤ a ∧ a ≤ 20000 ∧ a ≠ 0) (ha : a ∈ given) (hg : Good l given g ks) (h : letOk ks a = true) : Good l given (g ++ [a]) (addI ks a) := by
  have h0 : ¬ -a ∈ addI ks a := by
    simp only [letOk, Bool.and_eq_true, Bool.not_eq_true'] at h
    simpa using h.2
  have hm : ∀ x, x ∈ addI ks a ↔ x ∈ ks ∨ x = a := by
    intro x
    unfold addI
    split
    · rename_i hh
      constructor
      · exact .inl
      · rintro (h | rfl) <;> assumption
    · simp
  refine ⟨?_, ?_, ?_, ?_, ?_⟩
  · intro x hx
    rcases (hm x).1 hx with hx | rfl
    · exact hg.der x hx
    · exact .start x ha
  · intro x hx
    rcases List.mem_append.1 hx with hx | hx
    · exact (hm x).2 (.inl (hg.all x hx))
    · exact (hm x).2 (.inr (by simpa using hx))
  · intro x hx hx2
    rcases (hm x).1 hx with hx | rfl
    · rcases (hm _).1 hx2 with hx2 | hx2
      · exact hg.con x hx hx2
      · apply h0
        rw [show -a = x by omega]
        exact (hm x).2 (.inl hx)
    · exact h0 hx2
  · intro x hx
    rcases (hm x).1 hx with hx | rfl
    · exact hg.rng x hx
    · exact hr
  · unfold addI
    split
    · exact hg.nod
    · rename_i hh
      rw [List.nodup_append]
      refine ⟨hg.nod, by simp, ?_⟩
      intro x hx y hy hxy
      simp only [List.mem_singleton] at hy
      subst hy; subst hxy
      exact hh hx

theorem bad_let {l : List Cl} {given g ks : Cl} {a : Int} (hr : a ≠ 0) (ha : a ∈ given) (hg : Good l given g ks) (h : letOk ks a = false) : Bad l given := by
  have hb : (a != 0) = true := bne_iff_ne.2 hr
  simp only [letOk, hb, Bool.true_and, Bool.not_eq_false'] at h
  have h : -a ∈ addI ks a := by simpa using h
  unfold addI at h
  refine .inr ⟨a, .start a ha, ?_⟩
  split at h
  · exact hg.der _ h
  · rcases List.mem_append.1 h with h | h
    · exact hg.der _ h
    · have : -a = a := by simpa using h
      omega

set_option maxHeartbeats 2000000 in
theorem ev_reach (l : List Cl) (given : Cl) (hl : ∀ c ∈ l, ∀ b ∈ c, -20000 ≤ b ∧ b ≤ 20000 ∧ b ≠ 0) (hg : ∀ b ∈ given, -20000 ≤ b ∧ b ≤ 20000 ∧ b ≠ 0) :
    EvR TE 72 [cls l, ints given] fun v => (∃ ks, v = .tup [heldV ks, .bool true] ∧ Fin l given ks) ∨ (v = .tup [.nilm, .bool false] ∧ Bad l given) := by
  refine EvR.of_calls (ACalls.bnd fun hb => ?_)
  have hlen := cls_len hb
  have hlen2 := mem1 hb
  refine ACalls.of_awp Try.func72 rfl (by simp [nts]) (vc_ok mixed _ _ _ _ ?_)
  simp only [sz.down, ↓reduceIte, Nat.reduceEqDiff, Nat.reduceLT, Nat.reduceAdd, TEP, tis, nts, Try.results72]
  refine awp_loop (fun m f h => ∃ i ks, m + i = given.length ∧ f.t 0 = cls l ∧ f.t 1 = ints given ∧ f.t 4 = .lp 0 0 ∧ f.t 5 = .lp 1 0 ∧ f.t 6 = .lp 3 0 ∧ f.t 7 = .lp 4 0 ∧ f.t 13 = ints given ∧ f.t 14 = vi given.length ∧ f.t 15 = vi i ∧ f.d = [] ∧
    h = [.cells [.nilm], .cells [.bool false], .map (ks.map vi) (heldT ks), .cells [.lm 2], .cells [.fn (.func 78) [] [.lp 3 0]]] ∧ Good l given (given.take i) ks) given.length ⟨0, [], by simp, rfl, rfl, rfl, rfl, rfl, rfl, rfl, rfl, rfl, rfl, rfl, ⟨by simp, by simp, by simp, by simp, by simp⟩⟩ ?_
  rintro m f h ⟨i, ks, hm, h0, h1, h4, h5, h6, h7, h13, h14, h15, hd, rfl, hgood⟩
  refine vc_ok mixed _ _ _ _ ?_
  simp only [sz.down, ↓reduceIte, Nat.reduceLT, TEP, h14, h15]
  refine vcB.mk (fun hc => ?_) (fun hc => ?_)
  · simp only [decide_eq_true_eq, Int.ofNat_lt] at hc
    have hrg := hg _ (List.getElem_mem hc)
    simp only [sz.down, ↓reduceIte, Nat.reduceEqDiff, Nat.reduceLT, TEP, tis, ens, h7, h13, h15, getI hc]
    refine ⟨⟨by omega, by omega⟩, let_calls given[i] ⟨hrg.1, hrg.2.1⟩ ks _ _ _ _ ?_⟩
    simp only [sz.down, ↓reduceIte, Nat.reduceLT, TEP]
    refine vcB.mk (fun hb => ?_) (fun hb => ?_)
    · simp only [sz.down, ↓reduceIte, Nat.reduceEqDiff, TEP, tis, h4, h5, hd]
      exact ⟨_, .inr ⟨rfl, bad_let hrg.2.2 (List.getElem_mem hc) hgood (by simpa using hb)⟩, Reif.dat rfl⟩
    · have hnext := good_let hrg (List.getElem_mem hc) hgood (by simpa using hb)
      have htake : given.take (i + 1) = given.take i ++ [given[i]] := by
        rw [List.take_add_one]; simp [hc]
      rw [← htake] at hnext
      simp only [sz.down, ↓reduceIte, Nat.reduceEqDiff, Nat.reduceLT, TEP, h15, wrap_succ (show i < maxLen by omega)]
      exact .inl ⟨m - 1, by omega, i + 1, _, by omega, h0, h1, h4, h5, h6, h7, h13, h14, rfl, hd, rfl, hnext⟩
  · simp only [decide_eq_false_iff_not, Int.ofNat_lt] at hc
    rw [List.take_of_length_le (by omega)] at hgood
    simp only [sz.down, ↓reduceIte, Nat.reduceEqDiff, Nat.reduceLT, reduceCtorEq, TEP, tis, ens, h0, h6]
    refine goOn_calls l ks _ _ _ _ ?_
    simp only [sz.down]
    have hl2 : ∀ c ∈ l, ∀ a ∈ c, -20000 ≤ a ∧ a ≤ 20000 := fun c hc a ha => ⟨(hl c hc a ha).1, (hl c hc a ha).2.1⟩
    refine awp_rangeG (n := 33) (q := 81) (first := []) (captured := [.lp 6 0, .lp 5 0]) (by simp only [sz.down, ↓reduceIte]) (by simp only [sz.down, ↓reduceIte]) rfl (by decide) ?_
    intro L hLd gets
    refine ACalls.mono (goOn1_calls 8 2 5 6 _ l hl2 hlen ks (Good l given given)
      (fun ks h k => (∀ j, j < 9 → k j = false) ∧ ∃ t, t 4 = .lp 0 0 ∧ t 5 = .lp 1 0 ∧ t 7 = .lp 4 0 ∧ h = [.cells [.nilm], .cells [.bool false], .map (ks.map vi) (heldT ks), .cells [.lm 2], .cells [.fn (.func 78) [] [.lp 3 0]], .cells [.lm 2], .cells [cls l], .misc .dfd, L t .ready none])
      (fun j h k => (∀ j, j < 9 → k j = false) ∧ j = some .ret ∧ ∃ t ks, h = [.cells [.nilm], .cells [.bool false], .map (ks.map vi) (heldT ks), .cells [.lm 2], .cells [.fn (.func 78) [] [.lp 3 0]], .cells [.lm 2], .cells [cls l], .misc .dfd, L t .done (some .ret)])
      ?_ ?_ hgood ?_ ?_ ?_) ?_
    · rintro ks h k ⟨hk, t, _, _, _, rfl⟩
      exact ⟨rfl, rfl, rfl, hk _ (by omega), hk _ (by omega), hk _ (by omega)⟩
    · exact ⟨fun _ _ => rfl, _, by simp only [sz.down, ↓reduceIte, Nat.reduceEqDiff, h4], by simp only [sz.down, ↓reduceIte, Nat.reduceEqDiff, h5], by simp only [sz.down, ↓reduceIte, Nat.reduceEqDiff, h7], rfl⟩
    · intro ks c hg hc hn
      exact good_step hl hg hc hn
    · rintro ks h k a hk ⟨hk9, t, ht4, ht5, ht7, rfl⟩ ha0 ha1 ha2 har
      obtain ⟨e1, e2⟩ := let_new ha0 ha1 ha2
      refine gets _ _ _ t rfl rfl (fun lb => ?_)
      refine vc_ok mixed _ _ _ _ ?_
      simp only [sz.down, ↓reduceIte, Nat.reduceLT, Nat.reduceAdd, TEP, beginG]
      refine ⟨t, rfl, ?_⟩
      refine vc_ok mixed _ _ _ _ ?_
      simp only [sz.down, ↓reduceIte, Nat.reduceEqDiff, Nat.reduceLT, TEP, tis, ens, ht7]
      refine let_calls a har ks _ _ _ _ ?_
      simp only [sz.down, ↓reduceIte, Nat.reduceLT, TEP, e1, e2, roundG, XE.jump]
      exact ⟨t, _, rfl, hk9, t, ht4, ht5, ht7, rfl⟩
    · rintro ks h k hk ⟨hk9, t, ht4, ht5, ht7, rfl⟩
      refine gets _ _ _ t rfl rfl (fun lb => ?_)
      refine vc_ok mixed _ _ _ _ ?_
      simp only [sz.down, ↓reduceIte, Nat.reduceLT, Nat.reduceAdd, TEP, beginG]
      refine ⟨t, rfl, ?_⟩
      refine vc_ok mixed _ _ _ _ ?_
      simp only [sz.down, ↓reduceIte, Nat.reduceEqDiff, Nat.reduceLT, TEP, tis, ens, ht7]
      refine let_calls 0 (by omega) ks _ _ _ _ ?_
      have e1 : letOk ks 0 = false := rfl
      simp only [sz.down, ↓reduceIte, Nat.reduceEqDiff, Nat.reduceLT, TEP, tis, ht4, ht5, e1, roundG, XE.jump]
      exact ⟨t, _, rfl, hk9, t, addI ks 0, rfl⟩
    · rintro ae h' p ⟨hp, hr⟩
      cases ae with
      | pan v => exact hr.elim
      | ret v =>
        rcases hr with ⟨ks, ⟨hk9, t, ht4, ht5, ht7, rfl⟩, hgd, hcl⟩ | ⟨⟨ks1, c, hgd, hcm, hbad⟩, j, hk9, rfl, t, ks, rfl⟩
        · refine ⟨?_, hp, t, _, none, (by decide), rfl, ?_⟩
          · intro i hi
            have hi : i = 7 := by simpa [put_d, hd] using hi
            subst hi
            exact hk9 7 (by omega)
          · have k0 := hk9 0 (by omega)
            have k1 := hk9 1 (by omega)
            have k3 := hk9 3 (by omega)
            have k7 := hk9 7 (by omega)
            simp only [sz.down, ↓reduceIte, Nat.reduceEqDiff, Nat.reduceLT, Nat.reduceAdd, TEP, tis, h4, h5, h6, hd, jumpQ, k0, k1, k3]
            exact ⟨_, .inl ⟨ks, rfl, fin_of (fun c hc b hb => (hl c hc b hb).2.2) hgd hcl⟩, Reif.tup (Reifs.cons (Reif.lm rfl (Reifs.dat (dats_vi _)) (Reifs.dat (dats_heldT _))) (Reifs.dat rfl))⟩
        · refine ⟨?_, hp, t, _, some .ret, (by decide), rfl, ?_⟩
          · intro i hi
            have hi : i = 7 := by simpa [put_d, hd] using hi
            subst hi
            exact hk9 7 (by omega)
          · have k0 := hk9 0 (by omega)
            have k1 := hk9 1 (by omega)
            have k3 := hk9 3 (by omega)
            have k7 := hk9 7 (by omega)
            simp only [sz.down, ↓reduceIte, Nat.reduceEqDiff, Nat.reduceAdd, tis, h4, h5, hd, jumpQ, k0, k1]
            exact ⟨_, .inr ⟨rfl, .inl ⟨c, hcm, fun b hb => hgd.der _ ((unitF_bad hbad fun b hb => (hl c hcm b hb).2.2).2 b hb)⟩⟩, Reif.dat rfl⟩

end Go.Proofs.Ytajcfppemkdomaa

set_option linter.unusedVariables false
set_option linter.unusedSimpArgs false
set_option linter.unnecessarySimpa false
namespace Go.Proofs.Ytajcfppemkdomaa
open Go Go.Proofs Go.Abs

/-- A row that is being made. -/
def RowV (id : Nat) (vs : List V) (v : V) (h0 h : H) : Prop :=
  (vs = [] ∧ v = .nils ∧ h = h0) ∨ (v = .ls id 1 0 vs.length vs.length ∧ h = h0 ++ [.cells vs])

theorem fit_vi : ∀ c : Cl, allFit 1 (c.map vi) = true
  | [] => rfl
  | a :: c => by simp only [List.map_cons, allFit, fit_vi c, V.fit, V.vc, List.length_singleton]; rfl
theorem flat_vi : ∀ c : Cl, (c.map vi).flatMap V.vc = c.map vi
  | [] => rfl
  | a :: c => by simp only [List.map_cons, List.flatMap_cons, V.vc, flat_vi c]; rfl
theorem fit_cls : ∀ l : List Cl, allFit 1 (l.map fun c => ints c) = true
  | [] => rfl
  | a :: l => by simp only [List.map_cons, allFit, fit_cls l, V.fit, V.vc, List.length_singleton]; rfl
theorem flat_cls : ∀ l : List Cl, (l.map fun c => ints c).flatMap V.vc = l.map fun c => ints c
  | [] => rfl
  | a :: l => by simp only [List.map_cons, List.flatMap_cons, V.vc, flat_cls l]; rfl
theorem dats_cls : ∀ l : List Cl, V.dats (l.map fun c => ints c) = true
  | [] => rfl
  | a :: l => by simp only [List.map_cons, V.dats, V.dat, dats_cls l, Bool.and_self]

theorem RowV.reifI {id : Nat} {c : Cl} {v : V} {h0 h : H} (hr : RowV id (c.map vi) v h0 h) (hl : h0.length = id) : Reif TE h v (ints c) := by
  rcases hr with ⟨h1, rfl, rfl⟩ | ⟨rfl, rfl⟩
  · have : c = [] := by simpa using h1
    subst this
    exact Reif.nils
  · exact Reif.ls (by simp [← hl]) (Reifs.dat (dats_vi _)) (fit_vi _) (flat_vi _) rfl
theorem RowV.reifC {id : Nat} {l : List Cl} {v : V} {h0 h : H} (hr : RowV id (l.map fun c => ints c) v h0 h) (hl : h0.length = id) : Reif TE h v (cls l) := by
  rcases hr with ⟨h1, rfl, rfl⟩ | ⟨rfl, rfl⟩
  · have : l = [] := by simpa using h1
    subst this
    exact Reif.nils
  · exact Reif.ls (by simp [← hl]) (Reifs.dat (dats_cls _)) (fit_cls _) (flat_cls _) rfl

theorem drops_vi {p : Nat → Bool} : ∀ c : Cl, V.drops p (c.map vi) = c.map vi
  | [] => rfl
  | a :: c => by simp only [List.map_cons, V.drops, V.drop, drops_vi c]
theorem drops_cls {p : Nat → Bool} : ∀ l : List Cl, V.drops p (l.map fun c => ints c) = l.map fun c => ints c
  | [] => rfl
  | a :: c => by simp only [List.map_cons, V.drops, V.drop, drops_cls c]
theorem RowV.scv {id : Nat} {vs : List V} {v : V} {h0 h : H} (hr : RowV id vs v h0 h) : v.sc ∧ v.sv = v := by
  rcases hr with ⟨_, rfl, _⟩ | ⟨rfl, _⟩ <;> exact ⟨trivial, rfl⟩

theorem take_map_succ {α β : Type} {l : List α} {g : α → β} {i : Nat} (h : i < l.length) : (l.take (i + 1)).map g = (l.take i).map g ++ [g l[i]] := by
  rw [List.take_add_one, List.map_append]
  simp only [h, List.getElem?_eq_getElem, Option.toList_some, List.map_cons, List.map_nil]

open Classical in
/-- Does it lead to a conflict? -/
noncomputable def badB (l : List Cl) (given : Cl) : Bool := decide (Bad l given)
theorem badB_true {l : List Cl} {given : Cl} (h : Bad l given) : badB l given = true := by simp [badB, h]
theorem badB_false {l : List Cl} {given : Cl} (h : ¬ Bad l given) : badB l given = false := by simp [badB, h]
def negs (c : Cl) : Cl := c.map fun a => -a

theorem ev_rup (l : List Cl) (c : Cl) (hl : ∀ c ∈ l, ∀ b ∈ c, -20000 ≤ b ∧ b ≤ 20000 ∧ b ≠ 0) (hg : ∀ b ∈ c, -20000 ≤ b ∧ b ≤ 20000 ∧ b ≠ 0) (hc1 : c.length ≤ 1000000) :
    Ev TE 59 [cls l, ints c] (.bool (badB l (negs c))) := by
  have hM : maxLen = 9223372036854775807 := rfl
  refine Ev.of_awp Try.func59 rfl (by simp [nts]) (vc_ok mixed _ _ _ _ ?_)
  simp only [sz.down, ↓reduceIte, Nat.reduceEqDiff, Nat.reduceLT, TEP, tis, nts, Try.results59]
  refine awp_loop (fun m f h => ∃ i, m + i = c.length ∧ f.t 0 = cls l ∧ f.t 10 = ints c ∧ f.t 11 = vi c.length ∧ f.t 12 = vi i ∧ f.d = [] ∧ RowV 0 ((negs (c.take i)).map vi) (f.t 5) [] h) c.length ⟨0, by simp, rfl, rfl, rfl, rfl, rfl, .inl ⟨rfl, rfl, rfl⟩⟩ ?_
  rintro m f h ⟨i, hm, h0, h10, h11, h12, hd, hrow⟩
  refine vc_ok mixed _ _ _ _ ?_
  simp only [sz.down, ↓reduceIte, Nat.reduceLT, TEP, h11, h12]
  refine vcB.mk (fun hc => ?_) (fun hc => ?_)
  · simp only [decide_eq_true_eq, Int.ofNat_lt] at hc
    have hrg := hg _ (List.getElem_mem hc)
    have hneg := wrapneg ⟨hrg.1, hrg.2.1⟩
    have hn : (negs (c.take (i + 1))).map vi = (negs (c.take i)).map vi ++ [vi (-c[i])] := by
      unfold negs
      rw [List.map_map, take_map_succ hc, List.map_map]; rfl
    have hln : (negs (c.take i)).length = i := by simp [negs]; omega
    rcases hrow with ⟨ho, hv, rfl⟩ | ⟨hv, rfl⟩
    · simp only [sz.down, ↓reduceIte, Nat.reduceEqDiff, Nat.reduceLT, Nat.reduceLeDiff, reduceCtorEq, Nat.reduceMul, TEP, tis, h10, h12, getI hc, hv, hneg, wrap_succ (show i < maxLen by omega)]
      refine ⟨⟨by omega, by omega⟩, ⟨rfl, by decide⟩, by omega, .inl ⟨m - 1, by omega, i + 1, by omega, h0, h10, h11, rfl, hd, ?_⟩⟩
      rw [hn, ho]
      exact .inr ⟨rfl, rfl⟩
    · simp only [sz.down, ↓reduceIte, Nat.reduceEqDiff, Nat.reduceLT, reduceCtorEq, Nat.reduceMul, TEP, tis, h10, h12, hd, getI hc, hv, hneg, wrap_succ (show i < maxLen by omega)]
      refine ⟨⟨by omega, by omega⟩, ⟨rfl, by decide⟩, ⟨by omega, by omega, by omega⟩, .inl ⟨m - 1, by omega, i + 1, by omega, by simp only [sz.down, ↓reduceIte, reduceCtorEq, h0], by simp only [sz.down, ↓reduceIte, Nat.reduceEqDiff, h10], by simp only [sz.down, ↓reduceIte, Nat.reduceEqDiff, h11], rfl, hd, ?_⟩⟩
      rw [hn]
      exact .inr ⟨by simp only [sz.down, ↓reduceIte, Nat.reduceEqDiff], by simp only [sz.down, drops_vi]⟩
  · simp only [decide_eq_false_iff_not, Int.ofNat_lt] at hc
    rw [List.take_of_length_le (by omega)] at hrow
    obtain ⟨hs1, hs2⟩ := hrow.scv
    simp only [sz.down, ↓reduceIte, Nat.reduceEqDiff, Nat.reduceLT, reduceCtorEq, TEP, ens, h0, hs1, hs2]
    refine ACalls.giveAllR (ev_reach l (negs c) hl (by intro b hb; obtain ⟨a, ha, rfl⟩ := List.mem_map.1 hb; have := hg a ha; omega)) (Reifs.cons (Reif.dat (by simp only [V.dat])) (Reifs.cons (hrow.reifI rfl) Reifs.nil)) ?_
    rintro r (⟨ks, rfl, hfin⟩ | ⟨rfl, hbad⟩)
    · rw [badB_false hfin.not]
      simp only [sz.down, ↓reduceIte, Nat.reduceEqDiff, Nat.reduceLT, Nat.reduceAdd, reduceCtorEq, TEP, callK, hd]
      exact Reif.dat rfl
    · rw [badB_true hbad]
      simp only [sz.down, ↓reduceIte, Nat.reduceEqDiff, Nat.reduceLT, Nat.reduceAdd, reduceCtorEq, TEP, callK, hd]
      exact Reif.dat rfl

end Go.Proofs.Ytajcfppemkdomaa

set_option linter.unusedVariables false
set_option linter.unusedSimpArgs false
set_option linter.unnecessarySimpa false
namespace Go.Proofs.Ytajcfppemkdomaa
open Go Go.Proofs Go.Abs

theorem allOne_cls : ∀ l : List Cl, allOne (l.map fun c => ints c) = true
  | [] => rfl
  | a :: l => by simp only [List.map_cons, allOne, allOne_cls l, V.one]; rfl
theorem allOne_vi : ∀ l : Cl, allOne (l.map vi) = true
  | [] => rfl
  | a :: l => by simp only [List.map_cons, allOne, allOne_vi l, V.one]; rfl

theorem cloneC_calls (l : List Cl) (hl : l.length ≤ 1000000) (R : AEnd → H → (Nat → Bool) → Prop)
    (h1 : l = [] → R (.ret .nils) [] (fun _ => false))
    (h3 : R (.ret (.ls 0 1 0 l.length l.length)) [.cells (l.map fun c => ints c)] (fun _ => false)) : ACalls TE 57 [cls l] [] R := by
  have hM : maxLen = 9223372036854775807 := rfl
  refine ACalls.of_awp Try.func57 rfl (by simp [nts]) (vc_ok mixed _ _ _ _ ?_)
  simp only [sz.down, ↓reduceIte, Nat.reduceLT, reduceCtorEq, TEP, tis, nts, Try.results57]
  intro b hb
  cases b
  · simp only [sz.down, ↓reduceIte, Nat.reduceEqDiff, Nat.reduceLT, reduceCtorEq, Nat.reduceMul, TEP, tis, allOne_cls]
    exact ⟨⟨rfl, by decide⟩, ⟨by omega, by omega⟩, h3⟩
  · have : l = [] := by simpa using hb rfl
    subst this
    simp only [sz.down, ↓reduceIte, Nat.reduceLT, TEP]
    exact h1 rfl

/-- The clauses that grow. -/
def All (j : Nat) (all : List Cl) (h : H) : Prop :=
  (j = 0 ∧ all = [] ∧ h = [.cells [.nils]]) ∨
  (j = 0 ∧ h = [.cells [.ls 1 1 0 all.length all.length], .cells (all.map fun c => ints c)]) ∨
  (j = 1 ∧ h = [.cells (all.map fun c => ints c), .cells [.ls 0 1 0 all.length all.length]])

theorem leads1_calls (j : Nat) (all : List Cl) (c : Cl) (hl : ∀ c ∈ all, ∀ b ∈ c, -20000 ≤ b ∧ b ≤ 20000 ∧ b ≠ 0) (hg : ∀ b ∈ c, -20000 ≤ b ∧ b ≤ 20000 ∧ b ≠ 0) (hc1 : c.length ≤ 1000000) (ha : all.length ≤ 1000000)
    (h : H) (hA : All j all h) (R : AEnd → H → (Nat → Bool) → Prop) (hr : ∀ h' p, All j (all ++ [c]) h' → p j = false → R (.ret (.bool (!badB all (negs c)))) h' p) :
    ACalls TE 58 [ints c, .lp j 0] h R := by
  have hM : maxLen = 9223372036854775807 := rfl
  refine ACalls.of_awp Try.func58 rfl (by simp [nts]) (vc_ok mixed _ _ _ _ ?_)
  rcases hA with ⟨rfl, rfl, rfl⟩ | ⟨rfl, rfl⟩ | ⟨rfl, rfl⟩
  · simp only [sz.down, ↓reduceIte, Nat.reduceEqDiff, Nat.reduceLT, reduceCtorEq, TEP, tis, ens, nts, Try.results58]
    refine ACalls.lend (ev_rup [] c hl hg hc1) (Reifs.cons Reif.nils (Reifs.cons (Reif.dat (by simp only [V.dat])) Reifs.nil)) rfl ?_
    simp only [sz.down, ↓reduceIte, Nat.reduceEqDiff, Nat.reduceLT, Nat.reduceLeDiff, reduceCtorEq, Nat.reduceMul, TEP, tis]
    exact ⟨⟨rfl, by decide⟩, by omega, hr _ _ (.inr (.inl ⟨rfl, rfl⟩)) rfl⟩
  · simp only [sz.down, ↓reduceIte, Nat.reduceEqDiff, Nat.reduceLT, reduceCtorEq, TEP, tis, ens, nts, Try.results58]
    refine ACalls.lend (ev_rup all c hl hg hc1) (Reifs.cons (Reif.ls rfl (Reifs.dat (dats_cls _)) (fit_cls _) (flat_cls _) (by simp)) (Reifs.cons (Reif.dat (by simp only [V.dat])) Reifs.nil)) rfl ?_
    simp only [sz.down, ↓reduceIte, Nat.reduceEqDiff, Nat.reduceLT, Nat.reduceBEq, reduceCtorEq, Nat.reduceMul, TEP, tis]
    exact ⟨⟨rfl, by decide⟩, ⟨by omega, by omega, by omega⟩, hr _ _ (.inr (.inl ⟨rfl, by simp [drops_cls]⟩)) rfl⟩
  · simp only [sz.down, ↓reduceIte, Nat.reduceEqDiff, Nat.reduceLT, reduceCtorEq, TEP, tis, ens, nts, Try.results58]
    refine ACalls.lend (ev_rup all c hl hg hc1) (Reifs.cons (Reif.ls rfl (Reifs.dat (dats_cls _)) (fit_cls _) (flat_cls _) (by simp)) (Reifs.cons (Reif.dat (by simp only [V.dat])) Reifs.nil)) rfl ?_
    simp only [sz.down, ↓reduceIte, Nat.reduceEqDiff, Nat.reduceLT, Nat.reduceBEq, reduceCtorEq, Nat.reduceMul, TEP, tis]
    exact ⟨⟨rfl, by decide⟩, ⟨by omega, by omega, by omega⟩, hr _ _ (.inr (.inr ⟨rfl, by simp [drops_cls]⟩)) rfl⟩

theorem ixC_calls (l : List Cl) (q : FuncId) (j : Nat) (he : enters P q = true) (St : Nat → H → Prop) (b : Nat → Bool)
    (hq : ∀ i (hi : i < l.length) h R, St i h → (∀ h' p, St (i + 1) h' → p j = false → R (.ret (.bool (b i))) h' p) → ACalls TE q [ints l[i], .lp j 0] h R)
    (h : H) (h0 : St 0 h) (R : AEnd → H → (Nat → Bool) → Prop)
    (hyes : ∀ i h' p, i < l.length → (∀ k, k < i → b k = false) → b i = true → St (i + 1) h' → p j = false → R (.ret (vi i)) h' p)
    (hno : ∀ h' p, (∀ k, k < l.length → b k = false) → St l.length h' → p j = false → R (.ret (vi (-1))) h' p) :
    ACalls TE 60 [cls l, .fn (.func q) [] [.lp j 0]] h R := by
  refine ACalls.bnd fun hb => ?_
  have hlen := cls_len hb
  refine ACalls.of_awp Try.func60 rfl (by simp [nts]) (vc_ok mixed _ _ _ _ ?_)
  simp only [sz.down, ↓reduceIte, Nat.reduceLT, Int.reduceNeg, reduceCtorEq, TEP, tis, nts, Try.results60]
  refine awp_loop (fun m f h => ∃ i, m + i = l.length ∧ f.t 0 = cls l ∧ f.t 1 = .fn (.func q) [] [.lp j 0] ∧ f.t 7 = .int .i64 (l.length : Int) ∧ f.t 8 = .int .i64 (i : Int) ∧ f.d = [] ∧ f.k j = false ∧ St i h ∧ ∀ k, k < i → b k = false) l.length ⟨0, by simp, rfl, rfl, rfl, rfl, rfl, rfl, h0, by simp⟩ ?_
  rintro m f h ⟨i, hm, h0, h1, h7, h8, hdd, hk, hSt, hall⟩
  refine vc_ok mixed _ _ _ _ ?_
  simp only [sz.down, ↓reduceIte, Nat.reduceLT, Int.reduceNeg, TEP, h7, h8]
  refine vcB.mk (fun hc => ?_) (fun hc => ?_)
  · simp only [decide_eq_true_eq, Int.ofNat_lt] at hc
    simp only [sz.down, ↓reduceIte, Nat.reduceEqDiff, Nat.reduceLT, Int.reduceNeg, reduceCtorEq, TEP, tis, h0, h1, h8, getC hc, he]
    refine ⟨⟨by omega, by omega⟩, hq i hc _ _ hSt fun h' p hSt' hp => ?_⟩
    simp only [sz.down, ↓reduceIte, Int.reduceNeg, callK, hdd]
    refine vcB.mk (fun hc' => ?_) (fun hc' => ?_)
    · simp only [sz.down, ↓reduceIte, Nat.reduceEqDiff, Nat.reduceLT, Int.reduceNeg, TEP, hdd]
      exact hyes i _ _ hc hall hc' hSt' (by simp [hk, hp])
    · simp only [sz.down, ↓reduceIte, Nat.reduceEqDiff, Nat.reduceLT, Int.reduceNeg, TEP, h8, wrap_succ (show i < maxLen by omega)]
      refine .inl ⟨m - 1, by omega, i + 1, by omega, by simp only [sz.down, ↓reduceIte, reduceCtorEq, h0], by simp only [sz.down, ↓reduceIte, Nat.reduceEqDiff, h1, hp], by simp only [sz.down, ↓reduceIte, Nat.reduceEqDiff, h7], rfl, hdd, by simp only [sz.down, hk, hp], hSt', fun k hk => ?_⟩
      by_cases hki : k = i
      · subst hki; exact hc'
      · exact hall k (by omega)
  · simp only [decide_eq_false_iff_not, Int.ofNat_lt] at hc
    have : i = l.length := by omega
    subst this
    simp only [sz.down, ↓reduceIte, Nat.reduceLT, Int.reduceNeg, TEP, hdd]
    exact hno _ _ hall hSt hk

theorem ctC_calls (l : List Cl) (q : FuncId) (j : Nat) (he : enters P q = true) (St : Nat → H → Prop) (b : Nat → Bool)
    (hq : ∀ i (hi : i < l.length) h R, St i h → (∀ h' p, St (i + 1) h' → p j = false → R (.ret (.bool (b i))) h' p) → ACalls TE q [ints l[i], .lp j 0] h R)
    (h : H) (h0 : St 0 h) (R : AEnd → H → (Nat → Bool) → Prop)
    (hyes : ∀ i h' p, i < l.length → (∀ k, k < i → b k = false) → b i = true → St (i + 1) h' → p j = false → R (.ret (.bool true)) h' p)
    (hno : ∀ h' p, (∀ k, k < l.length → b k = false) → St l.length h' → p j = false → R (.ret (.bool false)) h' p) :
    ACalls TE 38 [cls l, .fn (.func q) [] [.lp j 0]] h R := by
  refine ACalls.of_awp Try.func38 rfl (by simp [nts]) (vc_ok mixed _ _ _ _ ?_)
  simp only [sz.down, ↓reduceIte, Nat.reduceEqDiff, Nat.reduceLT, reduceCtorEq, TEP, ens, nts, Try.results38]
  refine ixC_calls l q j he St b hq h h0 _ ?_ ?_
  · intro i h' p hi h1 h2 h3 h4
    simp only [sz.down, ↓reduceIte, Nat.reduceLT, TEP, callK]
    have : (decide (0 ≤ (i : Int))) = true := by simp
    rw [this]
    exact hyes i h' _ hi h1 h2 h3 (by simp [h4])
  · intro h' p h1 h2 h3
    simp only [sz.down, ↓reduceIte, Nat.reduceLT, Int.reduceLE, Int.reduceNeg, TEP, callK]
    exact hno h' _ h1 h2 (by simp [h3])

/-- Do steps lead to a conflict? -/
noncomputable def leadF : List Cl → List Cl → Bool
  | all, [] => badB all []
  | all, c :: s => badB all (negs c) && leadF (all ++ [c]) s

theorem leadF_take {l steps : List Cl} : ∀ {i : Nat}, i ≤ steps.length → (∀ k (hk : k < steps.length), k < i → badB (l ++ steps.take k) (negs steps[k]) = true) → leadF l steps = leadF (l ++ steps.take i) (steps.drop i)
  | 0, _, _ => by simp
  | i + 1, hi, h => by
    have hlt : i < steps.length := by omega
    rw [leadF_take (i := i) (by omega) fun k hk hki => h k hk (by omega), List.drop_eq_getElem_cons hlt, leadF, h i hlt (by omega), Bool.true_and]
    congr 1
    rw [List.take_add_one]
    simp [hlt]

/-- All is as small as it has to be. -/
def Lits (l : List Cl) : Prop := ∀ c ∈ l, ∀ b ∈ c, -20000 ≤ b ∧ b ≤ 20000 ∧ b ≠ 0
theorem Lits.take {l s : List Cl} {i : Nat} (h1 : Lits l) (h2 : Lits s) : Lits (l ++ s.take i) := by
  intro c hc
  rcases List.mem_append.1 hc with hc | hc
  · exact h1 c hc
  · exact h2 c (List.mem_of_mem_take hc)
theorem Lits.app {l s : List Cl} (h1 : Lits l) (h2 : Lits s) : Lits (l ++ s) := by
  intro c hc
  rcases List.mem_append.1 hc with hc | hc
  · exact h1 c hc
  · exact h2 c hc

theorem ev_leads (l steps : List Cl) (hl : Lits l) (hs : Lits steps) (hn : l.length ≤ 400000) (hn2 : steps.length ≤ 400000) (hc : ∀ c ∈ steps, c.length ≤ 1000000) :
    Ev TE 36 [cls l, cls steps] (.bool (leadF l steps)) := by
  have fin : ∀ (j : Nat) (h : H) (R : AEnd → H → (Nat → Bool) → Prop) (h0 : All j l h)
      (hy : ∀ h' p, leadF l steps = false → p j = false → R (.ret (.bool true)) h' p)
      (hno : ∀ h' p, All j (l ++ steps) h' → leadF l steps = badB (l ++ steps) [] → p j = false → R (.ret (.bool false)) h' p),
      ACalls TE 38 [cls steps, .fn (.func 58) [] [.lp j 0]] h R := by
    intro j h R h0 hy hno
    refine ctC_calls steps 58 j rfl (fun i h => i ≤ steps.length ∧ All j (l ++ steps.take i) h) (fun i => match steps[i]? with | some c => !badB (l ++ steps.take i) (negs c) | none => false) ?_ h ⟨by omega, by simpa using h0⟩ R ?_ ?_
    · rintro i hi h R ⟨_, hA⟩ hr
      refine leads1_calls j (l ++ steps.take i) steps[i] (hl.take hs) (hs _ (List.getElem_mem hi)) (hc _ (List.getElem_mem hi)) (by rw [List.length_append, List.length_take]; omega) h hA R fun h' p hA' hp => ?_
      have := hr h' p ⟨by omega, by rw [List.take_add_one]; simpa [hi] using hA'⟩ hp
      simpa [hi] using this
    · intro i h' p hi h1 h2 _ hp
      refine hy h' p ?_ hp
      have hb : badB (l ++ steps.take i) (negs steps[i]) = false := by simpa [hi] using h2
      rw [leadF_take (i := i) (by omega) fun k hk hki => by simpa [hk] using h1 k hki, List.drop_eq_getElem_cons hi, leadF, hb, Bool.false_and]
    · rintro h' p h1 ⟨_, hA⟩ hp
      refine hno h' p (by simpa using hA) ?_ hp
      rw [leadF_take (i := steps.length) (by omega) fun k hk hki => by simpa [hk] using h1 k hk]
      simp [leadF]
  have ne : ∀ b ∈ ([] : Cl), -20000 ≤ b ∧ b ≤ 20000 ∧ b ≠ 0 := by simp
  refine Ev.of_awp Try.func36 rfl (by simp [nts]) (vc_ok mixed _ _ _ _ ?_)
  simp only [sz.down, ↓reduceIte, Nat.reduceLT, reduceCtorEq, TEP, ens, nts, Try.results36]
  refine cloneC_calls l (by omega) _ (fun he => ?_) ?_
  · subst he
    simp only [sz.down, ↓reduceIte, Nat.reduceEqDiff, Nat.reduceLT, TEP, tis, ens]
    refine fin 0 _ _ (.inl ⟨rfl, rfl, rfl⟩) ?_ ?_
    · intro h' p h1 hp
      simp only [sz.down, ↓reduceIte, Nat.reduceEqDiff, Nat.reduceLT, TEP, tis, callK, hp]
      exact ⟨.bool false, trivial, Reif.eq rfl (by rw [h1]; rfl)⟩
    · intro h' p hA h1 hp
      rcases hA with ⟨_, he, rfl⟩ | ⟨_, rfl⟩ | ⟨hj, _⟩
      · simp only [sz.down, ↓reduceIte, Nat.reduceEqDiff, Nat.reduceLT, TEP, tis, ens, callK, hp]
        refine ACalls.lend (ev_rup [] [] (by simp) ne (by simp)) (Reifs.cons Reif.nils (Reifs.cons Reif.nils Reifs.nil)) rfl ?_
        simp only [sz.down, ↓reduceIte, Nat.reduceEqDiff, Nat.reduceLT, reduceCtorEq, TEP]
        exact Reif.eq rfl (by rw [h1, he]; rfl)
      · simp only [sz.down, ↓reduceIte, Nat.reduceEqDiff, Nat.reduceLT, TEP, tis, ens, callK, hp]
        refine ACalls.lend (ev_rup steps [] hs ne (by simp)) (Reifs.cons (Reif.ls rfl (Reifs.dat (dats_cls _)) (fit_cls _) (flat_cls _) (by simp)) (Reifs.cons Reif.nils Reifs.nil)) rfl ?_
        simp only [sz.down, ↓reduceIte, Nat.reduceEqDiff, Nat.reduceLT, reduceCtorEq, TEP]
        exact Reif.eq rfl (by rw [h1]; rfl)
      · cases hj
  · simp only [sz.down, ↓reduceIte, Nat.reduceEqDiff, Nat.reduceLT, TEP, tis, ens]
    refine fin 1 _ _ (.inr (.inr ⟨rfl, rfl⟩)) ?_ ?_
    · intro h' p h1 hp
      simp only [sz.down, ↓reduceIte, Nat.reduceEqDiff, Nat.reduceLT, TEP, tis, callK, hp]
      exact ⟨.bool false, trivial, Reif.eq rfl (by rw [h1]; rfl)⟩
    · intro h' p hA h1 hp
      rcases hA with ⟨hj, _⟩ | ⟨hj, _⟩ | ⟨_, rfl⟩
      · cases hj
      · cases hj
      · simp only [sz.down, ↓reduceIte, Nat.reduceEqDiff, Nat.reduceLT, TEP, tis, ens, callK, hp]
        refine ACalls.lend (ev_rup (l ++ steps) [] (hl.app hs) ne (by simp)) (Reifs.cons (Reif.ls rfl (by rw [← List.map_append]; exact Reifs.dat (dats_cls _)) (fit_cls _) (flat_cls _) (by simp)) (Reifs.cons Reif.nils Reifs.nil)) rfl ?_
        simp only [sz.down, ↓reduceIte, Nat.reduceEqDiff, Nat.reduceLT, reduceCtorEq, TEP]
        exact Reif.eq rfl (by rw [h1]; rfl)

end Go.Proofs.Ytajcfppemkdomaa

set_option linter.unusedVariables false
set_option linter.unusedSimpArgs false
set_option linter.unnecessarySimpa false
namespace Go.Proofs.Ytajcfppemkdomaa
open Go Go.Proofs Go.Abs

/-- What Rup tells. -/
noncomputable def rupV (l : List Cl) (vars : Int) (c : Cl) : Bool × Int := if ask l vars [c] ≠ 0 then (false, ask l vars [c]) else (badB l (negs c), 0)
/-- What Check tells. -/
noncomputable def leadV (l : List Cl) (vars : Int) (steps : List Cl) : Bool × Int := if ask l vars steps ≠ 0 then (false, ask l vars steps) else (leadF l steps, 0)

theorem ask_ok {l : List Cl} {vars : Int} {more : List Cl} (h : ask l vars more = 0) : Lits l ∧ Lits more ∧ 0 ≤ vars ∧ vars ≤ 20000 ∧ l.length ≤ 100000 ∧ chk l vars = 0 ∧ (∀ c ∈ l, ∀ a ∈ c, lit vars a = true) ∧ ∀ c ∈ more, ∀ a ∈ c, lit vars a = true := by
  unfold ask at h
  split at h
  · exact absurd h (by assumption)
  · rename_i hh
    have hz : chk l vars = 0 := by simpa using hh
    split at h
    · rename_i h2
      obtain ⟨h3, h4, h5, h6⟩ := chk_vars hz
      have h7 : ∀ c ∈ more, ∀ a ∈ c, lit vars a = true := by simpa using h2
      refine ⟨fun c hc a ha => ?_, fun c hc a ha => ?_, h3, h4, h5, hz, h6, h7⟩
      · have := lit_rng (h6 c hc a ha); omega
      · have := lit_rng (h7 c hc a ha); omega
    · cases h

theorem negs_rng {c : Cl} (h : ∀ b ∈ c, -20000 ≤ b ∧ b ≤ 20000 ∧ b ≠ 0) : ∀ b ∈ negs c, -20000 ≤ b ∧ b ≤ 20000 ∧ b ≠ 0 := by
  intro b hb
  obtain ⟨a, ha, rfl⟩ := List.mem_map.1 hb
  have := h a ha
  omega

theorem ev_Check (l : List Cl) (vars : Int) (steps : List Cl) (hn2 : steps.length ≤ 400000) (hc : ∀ c ∈ steps, c.length ≤ 1000000) : Ev TE 19 [cls l, vi vars, cls steps] (.tup [.bool (leadV l vars steps).1, vi (leadV l vars steps).2]) := by
  refine Ev.of_awp Try.func19 rfl (by simp [nts]) (vc_ok mixed _ _ _ _ ?_)
  simp only [sz.down, ↓reduceIte, Nat.reduceEqDiff, Nat.reduceLT, reduceCtorEq, TEP, ens, nts, Try.results19]
  refine ACalls.ev (ev_can l vars steps) (by simp [V.dats, V.dat]) ?_
  simp only [sz.down, ↓reduceIte, Nat.reduceLT, TEP]
  refine vcB.mk (fun hq => ?_) (fun hq => ?_)
  · have hq : ask l vars steps ≠ 0 := by simpa using hq
    have h0 : leadV l vars steps = (false, ask l vars steps) := by unfold leadV; rw [if_pos hq]
    simp only [sz.down, ↓reduceIte, Nat.reduceEqDiff, Nat.reduceLT, TEP]
    exact Reif.eq rfl (by rw [h0])
  · have hq : ask l vars steps = 0 := by simpa using hq
    have h0 : leadV l vars steps = (leadF l steps, 0) := by unfold leadV; rw [if_neg (by simp [hq])]
    obtain ⟨q1, q2, q3, q4, q5, _⟩ := ask_ok hq
    simp only [sz.down, ↓reduceIte, Nat.reduceEqDiff, Nat.reduceLT, reduceCtorEq, TEP, ens]
    refine ACalls.ev (ev_leads l steps q1 q2 (by omega) hn2 hc) (by simp [V.dats, V.dat]) ?_
    simp only [sz.down, ↓reduceIte, Nat.reduceEqDiff, Nat.reduceLT, TEP]
    exact Reif.eq rfl (by rw [h0])

end Go.Proofs.Ytajcfppemkdomaa

set_option linter.unusedVariables false
set_option linter.unusedSimpArgs false
set_option linter.unnecessarySimpa false
namespace Go.Proofs.Ytajcfppemkdomaa
open Go Go.Proofs Go.Abs Go.RowKit

/-- Do values let all clauses hold, of which the first ones are given? -/
def anyF (l : List Cl) : Nat → List Bool → Bool
  | 0, vs => sat l vs
  | k + 1, vs => anyF l k (vs ++ [false]) || anyF l k (vs ++ [true])

theorem allOne_b : ∀ l : List Bool, allOne (l.map V.bool) = true
  | [] => rfl
  | a :: l => by simp only [List.map_cons, allOne, allOne_b l, V.one]; rfl
theorem dats_b : ∀ l : List Bool, V.dats (l.map V.bool) = true
  | [] => rfl
  | a :: l => by simp only [List.map_cons, V.dats, V.dat, dats_b l, Bool.and_self]
theorem fit_b : ∀ l : List Bool, allFit 1 (l.map V.bool) = true
  | [] => rfl
  | a :: l => by simp only [List.map_cons, allFit, fit_b l, V.fit, V.vc, List.length_singleton]; rfl
theorem flat_b : ∀ l : List Bool, (l.map V.bool).flatMap V.vc = l.map V.bool
  | [] => rfl
  | a :: l => by simp only [List.map_cons, List.flatMap_cons, V.vc, flat_b l]; rfl
theorem drops_b {p : Nat → Bool} : ∀ l : List Bool, V.drops p (l.map V.bool) = l.map V.bool
  | [] => rfl
  | a :: l => by simp only [List.map_cons, V.drops, V.drop, drops_b l]

set_option maxHeartbeats 1000000 in
theorem ev_any (l : List Cl) (vars : Nat) (hv : vars ≤ 20000) (hl : ∀ c ∈ l, ∀ a ∈ c, lit vars a = true) : ∀ (k : Nat) (vs : List Bool), vs.length + k = vars →
    Ev TE 29 [cls l, bools vs, vi vars] (.bool (anyF l k vs))
  | 0, vs, h => by
    have hvs : vs.length = vars := by omega
    refine Ev.of_awp Try.func29 rfl (by simp [nts]) (vc_ok mixed _ _ _ _ ?_)
    simp only [sz.down, ↓reduceIte, Nat.reduceEqDiff, Nat.reduceLT, TEP, tis, nts, Try.results29]
    refine vcB.mk (fun hc => ?_) (fun hc => ?_)
    · simp only [sz.down, ↓reduceIte, Nat.reduceEqDiff, Nat.reduceLT, reduceCtorEq, TEP, ens]
      refine ACalls.ev (ev_all l vs (by omega) (by rw [hvs]; exact hl)) (by simp only [V.dats, V.dat, Bool.and_self]) ?_
      simp only [sz.down, ↓reduceIte, Nat.reduceLT, TEP]
      exact Reif.dat rfl
    · simp only [beq_eq_false_iff_ne, ne_eq, Int.natCast_inj] at hc
      exact absurd hvs hc
  | k + 1, vs, h => by
    have hM : maxLen = 9223372036854775807 := rfl
    have ih1 := ev_any l vars hv hl k (vs ++ [false]) (by simp; omega)
    have ih2 := ev_any l vars hv hl k (vs ++ [true]) (by simp; omega)
    rw [show anyF l (k + 1) vs = (anyF l k (vs ++ [false]) || anyF l k (vs ++ [true])) from rfl]
    generalize anyF l k (vs ++ [false]) = A at ih1 ⊢
    generalize anyF l k (vs ++ [true]) = B at ih2 ⊢
    refine Ev.of_awp Try.func29 rfl (by simp [nts]) (vc_ok mixed _ _ _ _ ?_)
    simp only [sz.down, ↓reduceIte, Nat.reduceEqDiff, Nat.reduceLT, TEP, tis, nts, Try.results29]
    refine vcB.mk (fun hc => ?_) (fun hc => ?_)
    · simp only [beq_iff_eq, Int.natCast_inj] at hc
      omega
    · have e1 : List.map V.bool vs ++ [V.bool false] = (vs ++ [false]).map V.bool := by simp
      have e2 : List.map V.bool vs ++ [V.bool true] = (vs ++ [true]).map V.bool := by simp
      simp only [sz.down, ↓reduceIte, Nat.reduceEqDiff, Nat.reduceLT, reduceCtorEq, Nat.reduceMul, TEP, tis, ens, allOne_b, drops_b]
      rw [e1]
      refine ⟨⟨by omega, by omega⟩, ⟨by omega, by omega⟩, ⟨rfl, by decide⟩, ⟨by omega, by omega, by omega⟩, ACalls.lend ih1 (Reifs.cons (Reif.dat (by simp only [V.dat])) (Reifs.cons (Reif.ls rfl (Reifs.dat (dats_b _)) (fit_b _) (flat_b _) (by simp)) (Reifs.cons (Reif.dat rfl) Reifs.nil))) rfl ?_⟩
      cases A with
      | true =>
        simp only [sz.down, ↓reduceIte, Nat.reduceEqDiff, Nat.reduceLT, Nat.reduceBEq, reduceCtorEq, Nat.reduceMul, TEP, tis]
        exact ⟨.bool true, .bool true, trivial, Reif.eq rfl rfl⟩
      | false =>
        simp only [sz.down, ↓reduceIte, Nat.reduceEqDiff, Nat.reduceLT, Nat.reduceBEq, reduceCtorEq, Nat.reduceMul, TEP, tis, ens, drops_b]
        rw [e2]
        refine ⟨⟨rfl, by decide⟩, ⟨by omega, by omega, by omega⟩, ACalls.lend ih2 (Reifs.cons (Reif.dat (by simp only [V.dat])) (Reifs.cons (Reif.ls rfl (Reifs.dat (dats_b _)) (fit_b _) (flat_b _) (by simp)) (Reifs.cons (Reif.dat rfl) Reifs.nil))) rfl ?_⟩
        simp only [sz.down, ↓reduceIte, Nat.reduceEqDiff, Nat.reduceLT, TEP]
        exact Reif.dat rfl

/-! ### What follows holds -/
theorem hol_neg {vs : List Bool} {a : Int} (h : a ≠ 0) : hol vs (-a) = !hol vs a := by
  unfold hol
  by_cases h0 : a < 0
  · rw [if_neg (by omega), if_pos h0, Bool.not_not]
  · rw [if_pos (by omega), if_neg h0, Int.neg_neg]

theorem der_hol {l : List Cl} {given : Cl} {vs : List Bool} (hl : Lits l) (hs : sat l vs = true) (hg : ∀ a ∈ given, hol vs a = true) : ∀ a, Der l given a → hol vs a = true := by
  intro a h
  induction h with
  | start a h => exact hg a h
  | unit c a h1 h2 h3 ih =>
    have hc : c.any (hol vs) = true := List.all_eq_true.1 hs c h1
    obtain ⟨b, hb, hb2⟩ := List.any_eq_true.1 hc
    by_cases hba : b = a
    · subst hba; exact hb2
    · have := ih b hb hba
      rw [hol_neg (hl c h1 b hb).2.2, hb2] at this
      cases this

theorem bad_hol {l : List Cl} {given : Cl} {vs : List Bool} (hl : Lits l) (hr : ∀ a ∈ given, a ≠ 0) (hs : sat l vs = true) (hb : Bad l given) : ¬ ∀ a ∈ given, hol vs a = true := by
  intro hg
  rcases hb with ⟨c, h1, h2⟩ | ⟨a, h1, h2⟩
  · have hc : c.any (hol vs) = true := List.all_eq_true.1 hs c h1
    obtain ⟨b, hb, hb2⟩ := List.any_eq_true.1 hc
    have := der_hol hl hs hg _ (h2 b hb)
    rw [hol_neg (hl c h1 b hb).2.2, hb2] at this
    cases this
  · have g1 := der_hol hl hs hg _ h1
    have g2 := der_hol hl hs hg _ h2
    have hz : a ≠ 0 := by
      cases h1 with
      | start _ h => exact hr a h
      | unit c _ h1 h2 _ => exact (hl c h1 a h2).2.2
    rw [hol_neg hz, g1] at g2
    cases g2

theorem of_badB {l : List Cl} {given : Cl} (h : badB l given = true) : Bad l given := by simpa [badB] using h
theorem not_badB {l : List Cl} {given : Cl} (h : badB l given = false) : ¬ Bad l given := by simpa [badB] using h

/-- A clause that follows holds wherever the clauses do. -/
theorem rup_hol {l : List Cl} {c : Cl} {vs : List Bool} (hl : Lits l) (hr : ∀ b ∈ c, -20000 ≤ b ∧ b ≤ 20000 ∧ b ≠ 0) (hs : sat l vs = true) (hb : badB l (negs c) = true) : c.any (hol vs) = true := by
  have h1 := bad_hol hl (fun a ha => (negs_rng hr a ha).2.2) hs (of_badB hb)
  rw [List.any_eq_true]
  apply Classical.byContradiction
  intro hn
  apply h1
  intro a ha
  obtain ⟨b, hb, rfl⟩ := List.mem_map.1 ha
  rw [hol_neg (hr b hb).2.2]
  cases h : hol vs b with
  | false => rfl
  | true => exact absurd ⟨b, hb, h⟩ hn

theorem leads_unsat : ∀ {s all : List Cl} {vs : List Bool}, Lits all → Lits s → leadF all s = true → sat all vs = false
  | [], all, vs, h1, _, h => by
    unfold leadF at h
    cases hs : sat all vs with
    | false => rfl
    | true => exact absurd (by simp) (bad_hol h1 (by simp) hs (of_badB h))
  | c :: s, all, vs, h1, h2, h => by
    unfold leadF at h
    rw [Bool.and_eq_true] at h
    have hc := h2 c (by simp)
    have hb : Lits (all ++ [c]) := h1.app (fun x hx => by
      have : x = c := by simpa using hx
      subst this; exact hc)
    have ih := leads_unsat (vs := vs) hb (fun x hx => h2 x (by simp [hx])) h.2
    cases hs : sat all vs with
    | false => rfl
    | true =>
      have h3 := rup_hol h1 hc hs h.1
      have : sat (all ++ [c]) vs = true := by
        unfold sat at hs ⊢
        rw [List.all_append, hs]
        simp [h3]
      rw [this] at ih; cases ih

theorem any_none {l : List Cl} (h : ∀ vs, sat l vs = false) : ∀ (k : Nat) (vs : List Bool), anyF l k vs = false
  | 0, vs => h vs
  | k + 1, vs => by unfold anyF; rw [any_none h k, any_none h k]; rfl

end Go.Proofs.Ytajcfppemkdomaa
