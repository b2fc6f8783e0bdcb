/- Functions of the program, part 25. -/
import Derived.Test.YtegnjoonhabicaaF24
set_option linter.unusedVariables false
set_option linter.unusedSimpArgs false
set_option linter.unnecessarySimpa false
namespace Go.Proofs.Ytegnjoonhabicaa
open Go Go.Proofs Go.Abs Go.RowKit

def sg (a : Int) : Int := if a < 0 then -1 else 1
theorem sg_ne (a : Int) : sg a ≠ 0 := by unfold sg; split <;> omega
theorem hld_iff {on : Cl} {a : Int} : hld on a = true ↔ on.getD a.natAbs 0 = sg a := by
  unfold hld sg
  split
  · rename_i h
    have : (-a).toNat = a.natAbs := by omega
    rw [this]; simp
  · rename_i h
    have : a.toNat = a.natAbs := by omega
    rw [this]; simp
theorem letR_eq (on : Cl) (a : Int) : letR on a = on.set a.natAbs (sg a) := by
  unfold letR sg
  split
  · rename_i h
    have : (-a).toNat = a.natAbs := by omega
    rw [this]
  · rename_i h
    have : a.toNat = a.natAbs := by omega
    rw [this]

theorem getD_set {on : Cl} {i j : Nat} {x : Int} (h : i < on.length) : (on.set i x).getD j 0 = if i = j then x else on.getD j 0 := by
  rw [List.getD_eq_getElem?_getD, List.getD_eq_getElem?_getD, List.getElem?_set]
  split
  · rename_i e
    simp [h]
  · rfl

theorem hld_self {on : Cl} {a : Int} (h : a.natAbs < on.length) : hld (letR on a) a = true := by
  rw [hld_iff, letR_eq, getD_set h, if_pos rfl]
theorem hld_let {on : Cl} {a b : Int} (h : a.natAbs < on.length) (hb : hld (letR on a) b = true) : b = a ∨ hld on b = true ∨ (b = 0 ∧ a = 0) := by
  rw [hld_iff, letR_eq, getD_set h] at hb
  split at hb
  · rename_i e
    left
    unfold sg at hb
    split at hb <;> split at hb <;> omega
  · exact .inr (.inl (hld_iff.2 hb))
theorem hld_keep {on : Cl} {a b : Int} (h : a.natAbs < on.length) (h0 : on.getD a.natAbs 0 = 0) (hb : hld on b = true) : hld (letR on a) b = true := by
  rw [hld_iff] at hb ⊢
  rw [letR_eq, getD_set h]
  split
  · rename_i e
    rw [← e, h0] at hb
    exact absurd hb.symm (sg_ne b)
  · exact hb
theorem hld_stay {on : Cl} {a b : Int} (h : a.natAbs < on.length) (h0 : hld on (-a) = false) (ha : a ≠ 0) (hb : hld on b = true) : hld (letR on a) b = true := by
  rw [hld_iff] at hb ⊢
  rw [letR_eq, getD_set h]
  split
  · rename_i e
    have hba : b ≠ -a := by
      rintro rfl
      rw [← hld_iff, h0] at hb
      cases hb
    unfold sg
    split <;> split <;> omega
  · exact hb

structure GoodR (l : List Cl) (given : Cl) (vars : Nat) (g on : Cl) (bad : Bool) : Prop where
  len : on.length = vars + 1
  zer : on.getD 0 0 = 0
  tri : ∀ x ∈ on, x = -1 ∨ x = 0 ∨ x = 1
  der : ∀ a, a ≠ 0 → hld on a = true → Der l given a
  isb : bad = true → Bad l given
  all : bad = false → ∀ a ∈ g, hld on a = true

theorem goodR_first (l : List Cl) (given : Cl) (vars : Nat) : GoodR l given vars [] (List.replicate (vars + 1) 0) false := by
  have hz : ∀ j, (List.replicate (vars + 1) (0 : Int)).getD j 0 = 0 := by
    intro j
    rw [List.getD_eq_getElem?_getD, List.getElem?_replicate]
    split <;> rfl
  refine ⟨by simp, hz 0, fun x hx => .inr (.inl (List.eq_of_mem_replicate hx)), fun a _ h => ?_, (fun h => by cases h), fun _ a h => by cases h⟩
  rw [hld_iff, hz] at h
  exact absurd h.symm (sg_ne a)

theorem letR_len (on : Cl) (a : Int) : (letR on a).length = on.length := by rw [letR_eq]; simp
theorem letR_tri {on : Cl} {a : Int} (h : ∀ x ∈ on, x = -1 ∨ x = 0 ∨ x = 1) : ∀ x ∈ letR on a, x = -1 ∨ x = 0 ∨ x = 1 := by
  intro x hx
  rw [letR_eq] at hx
  rcases List.mem_or_eq_of_mem_set hx with hx | rfl
  · exact h x hx
  · unfold sg; split <;> simp
theorem letR_zer {on : Cl} {a : Int} (h : a.natAbs < on.length) (ha : a ≠ 0) (hz : on.getD 0 0 = 0) : (letR on a).getD 0 0 = 0 := by
  rw [letR_eq, getD_set h, if_neg (by omega), hz]

/-- One that is given. -/
theorem goodR_let {l : List Cl} {given g on : Cl} {vars : Nat} {bad : Bool} {a : Int} (hg : GoodR l given vars g on bad) (h0 : a ≠ 0) (h1 : a.natAbs ≤ vars) (ha : a ∈ given) :
    GoodR l given vars (g ++ [a]) (letR on a) (bad || hld on (-a)) := by
  have hl := hg.len
  refine ⟨by rw [letR_len, hl], letR_zer (by omega) h0 hg.zer, letR_tri hg.tri, fun b hb h => ?_, fun h => ?_, fun h b hb => ?_⟩
  · rcases hld_let (by omega) h with rfl | h | ⟨_, h⟩
    · exact .start _ ha
    · exact hg.der b hb h
    · exact absurd h h0
  · rw [Bool.or_eq_true] at h
    rcases h with h | h
    · exact hg.isb h
    · exact .inr ⟨a, .start _ ha, hg.der _ (by omega) h⟩
  · rw [Bool.or_eq_false_iff] at h
    rcases List.mem_append.1 hb with hb | hb
    · exact hld_stay (by omega) h.2 h0 (hg.all h.1 b hb)
    · have : b = a := by simpa using hb
      subst this
      exact hld_self (by omega)

def nz (on : Cl) : Nat := on.countP fun x => x != 0

theorem nz_le {on : Cl} {vars : Nat} (hl : on.length = vars + 1) (hz : on.getD 0 0 = 0) : nz on ≤ vars := by
  cases on with
  | nil => simp at hl
  | cons x on =>
    have hx : x = 0 := by simpa using hz
    subst hx
    have h1 : nz (0 :: on) = nz on := by unfold nz; rw [List.countP_cons]; simp
    have h2 : nz on ≤ on.length := List.countP_le_length
    rw [h1]
    simp at hl
    omega
theorem nz_let {on : Cl} {a : Int} (h : a.natAbs < on.length) (h0 : on.getD a.natAbs 0 = 0) : nz (letR on a) = nz on + 1 := by
  unfold nz
  rw [letR_eq, List.countP_set h]
  have e1 : on[a.natAbs] = 0 := by rw [← getD_at (d := 0) h, h0]
  have e2 : (sg a != 0) = true := bne_iff_ne.2 (sg_ne a)
  rw [e1, e2]
  simp

def Closed (on : Cl) (l : List Cl) : Prop := ∀ c ∈ l, oneR (on, false) c = (on, false)
def ProgR (l : List Cl) (n i : Nat) (on : Cl) : Prop := (Closed on (l.take i) ∧ (Closed on l ∨ n ≤ nz on)) ∨ n + 1 ≤ nz on

theorem leftS_nodup (on : Cl) : ∀ (c out : Cl), out.Nodup → (leftS on out c).Nodup
  | [], out, h => h
  | a :: c, out, h => by
    show (leftS on (if (out.contains a || hld on (-a)) = true then out else out ++ [a]) c).Nodup
    refine leftS_nodup on c _ ?_
    split
    · exact h
    · rename_i hh
      simp only [Bool.or_eq_true, List.contains_iff_mem, not_or] at hh
      rw [List.nodup_append]
      refine ⟨h, by simp, ?_⟩
      intro x hx y hy hxy
      simp only [List.mem_singleton] at hy
      subst hy; subst hxy
      exact hh.1 hx

/-- One clause. -/
theorem goodR_one {l : List Cl} {given g on c : Cl} {vars n i : Nat} (hg : GoodR l given vars g on false) (hi : i < l.length) (he : l[i] = c) (hc : ∀ b ∈ c, b ≠ 0 ∧ b.natAbs ≤ vars) (hp : ProgR l n i on) :
    GoodR l given vars g (oneR (on, false) c).1 (oneR (on, false) c).2 ∧ ((oneR (on, false) c).2 = true ∨ ProgR l n (i + 1) (oneR (on, false) c).1) := by
  have hcl : c ∈ l := he ▸ List.getElem_mem hi
  have hlen := hg.len
  have htk : l.take (i + 1) = l.take i ++ [c] := by rw [List.take_add_one]; simp [hi, he]
  have same : oneR (on, false) c = (on, false) → ProgR l n (i + 1) on := by
    intro h
    rcases hp with ⟨h1, h2⟩ | h
    · refine .inl ⟨?_, h2⟩
      intro d hd
      rw [htk] at hd
      rcases List.mem_append.1 hd with hd | hd
      · exact h1 d hd
      · have : d = c := by simpa using hd
        rw [this]; exact h
    · exact .inr h
  have hm := fun x => @left_mem on c x
  have hdone : oneR (on, false) c = match leftR on c with
    | [] => (on, true)
    | [x] => if hld on x = true then (on, false) else (letR on x, false)
    | _ => (on, false) := rfl
  generalize leftR on c = L at hm hdone
  match L, hm, hdone with
  | [], hm, hdone =>
    rw [hdone]
    refine ⟨⟨hg.len, hg.zer, hg.tri, hg.der, fun _ => .inl ⟨c, hcl, fun b hb => ?_⟩, (fun h => by cases h)⟩, .inl rfl⟩
    have h1 : ¬ (b ∈ c ∧ hld on (-b) = false) := fun h => by have := (hm b).2 h; cases this
    have h2 : hld on (-b) = true := by
      cases h : hld on (-b)
      · exact absurd ⟨hb, h⟩ h1
      · rfl
    exact hg.der _ (by have := (hc b hb).1; omega) h2
  | [x], hm, hdone =>
    obtain ⟨hx1, hx2⟩ := (hm x).1 (by simp)
    obtain ⟨hx3, hx4⟩ := hc x hx1
    by_cases hh : hld on x = true
    · have hd2 : oneR (on, false) c = (on, false) := by rw [hdone]; exact if_pos hh
      rw [hd2]
      exact ⟨hg, .inr (same hd2)⟩
    · have hd2 : oneR (on, false) c = (letR on x, false) := by rw [hdone]; exact if_neg hh
      have hzero : on.getD x.natAbs 0 = 0 := by
        have hlt : x.natAbs < on.length := by omega
        have h1 := hg.tri _ (List.getElem_mem hlt)
        have h2 : hld on x = true ↔ _ := hld_iff
        have h3 : hld on (-x) = true ↔ _ := hld_iff
        rw [hx2] at h3
        have h4 : (-x).natAbs = x.natAbs := by omega
        rw [h4] at h3
        rw [getD_at hlt] at h2 h3 ⊢
        have h2 : on[x.natAbs] ≠ sg x := fun h => hh (h2.2 h)
        have h3 : on[x.natAbs] ≠ sg (-x) := fun h => by have := h3.2 h; cases this
        unfold sg at h2 h3
        split at h2 <;> split at h3 <;> omega
      rw [hd2]
      refine ⟨⟨by rw [letR_len, hlen], letR_zer (by omega) hx3 hg.zer, letR_tri hg.tri, fun b hb h => ?_, (fun h => by cases h), fun _ b hb => hld_keep (by omega) hzero (hg.all rfl b hb)⟩, .inr (.inr ?_)⟩
      · rcases hld_let (by omega) h with rfl | h | ⟨_, h⟩
        · refine .unit c b hcl hx1 fun d hd hne => ?_
          have h1 : ¬ (d ∈ c ∧ hld on (-d) = false) := fun h => by
            have := (hm d).2 h
            exact hne (by simpa using this)
          have h2 : hld on (-d) = true := by
            cases h : hld on (-d)
            · exact absurd ⟨hd, h⟩ h1
            · rfl
          exact hg.der _ (by have := (hc d hd).1; omega) h2
        · exact hg.der b hb h
        · exact absurd h hx3
      · show n + 1 ≤ nz (letR on x)
        rw [nz_let (by omega) hzero]
        rcases hp with ⟨_, h2 | h2⟩ | h
        · have h5 := h2 c hcl
          rw [hd2] at h5
          have h6 : letR on x = on := congrArg Prod.fst h5
          have h7 := hld_self (on := on) (a := x) (by omega)
          rw [h6] at h7
          exact absurd h7 hh
        · omega
        · omega
  | x :: y :: L, hm, hdone =>
    have hd2 : oneR (on, false) c = (on, false) := hdone
    rw [hd2]
    exact ⟨hg, .inr (same hd2)⟩

structure FinR (l : List Cl) (given : Cl) (vars : Nat) (on : Cl) (bad : Bool) : Prop where
  len : on.length = vars + 1
  zer : on.getD 0 0 = 0
  tri : ∀ x ∈ on, x = -1 ∨ x = 0 ∨ x = 1
  isb : bad = true → Bad l given
  not : bad = false → ¬ Bad l given
  iff : bad = false → ∀ a, hld on a = true ↔ Der l given a

theorem finR_bad {l : List Cl} {given g on : Cl} {vars : Nat} (hg : GoodR l given vars g on true) : FinR l given vars on true :=
  ⟨hg.len, hg.zer, hg.tri, hg.isb, (fun h => by cases h), (fun h => by cases h)⟩

theorem hld_con {on : Cl} {a : Int} (ha : a ≠ 0) (h : hld on a = true) : hld on (-a) = false := by
  cases h2 : hld on (-a)
  · rfl
  · rw [hld_iff] at h h2
    have h4 : (-a).natAbs = a.natAbs := by omega
    rw [h4, h] at h2
    unfold sg at h2
    split at h2 <;> split at h2 <;> omega

theorem finR_closed {l : List Cl} {given on : Cl} {vars : Nat} (hl : ∀ c ∈ l, ∀ b ∈ c, b ≠ 0 ∧ b.natAbs ≤ vars) (hgn : ∀ b ∈ given, b ≠ 0) (hg : GoodR l given vars given on false) (hc : Closed on l) : FinR l given vars on false := by
  have hz : hld on 0 = false := by
    cases h : hld on 0
    · rfl
    · rw [hld_iff] at h
      have := hg.zer
      rw [show (0 : Int).natAbs = 0 from rfl, this] at h
      exact absurd h.symm (sg_ne 0)
  have key : ∀ a, Der l given a → hld on a = true := by
    intro a h
    induction h with
    | start a h => exact hg.all rfl a h
    | unit c a h1 h2 h3 ih =>
      have hcc := hc c h1
      have hm := fun x => @left_mem on c x
      have hsub : ∀ x ∈ leftR on c, x = a := by
        intro x hx
        have hx := (hm x).1 hx
        apply Classical.byContradiction
        intro hne
        have := ih x hx.1 hne
        rw [hx.2] at this
        cases this
      have hdone : oneR (on, false) c = match leftR on c with
        | [] => (on, true)
        | [x] => if hld on x = true then (on, false) else (letR on x, false)
        | _ => (on, false) := rfl
      have hnd : (leftR on c).Nodup := leftS_nodup on c [] (by simp)
      rw [hcc] at hdone
      generalize leftR on c = L at hm hdone hsub hnd
      match L, hm, hdone, hsub, hnd with
      | [], hm, hdone, _, _ => exact absurd (congrArg Prod.snd hdone) (by simp)
      | [x], hm, hdone, hsub, _ =>
        have := hsub x (by simp)
        subst this
        by_cases hh : hld on x = true
        · exact hh
        · have h6 : on = letR on x := by
            have hd3 : (on, false) = if hld on x = true then (on, false) else (letR on x, false) := hdone
            rw [if_neg hh] at hd3
            exact congrArg Prod.fst hd3
          have h7 := hld_self (on := on) (a := x) (by have := (hl c h1 x h2).2; have := hg.len; omega)
          rw [← h6] at h7
          exact absurd h7 hh
      | x :: y :: L, hm, hdone, hsub, hnd =>
        have h5 := hsub x (by simp)
        have h6 := hsub y (by simp)
        subst h5
        subst h6
        simp at hnd
  have kz : ∀ a, Der l given a → a ≠ 0 := by
    intro a h
    rintro rfl
    have := key 0 h
    rw [hz] at this
    cases this
  refine ⟨hg.len, hg.zer, hg.tri, (fun h => by cases h), fun _ => ?_, fun _ a => ⟨fun h => ?_, key a⟩⟩
  · rintro (⟨c, h1, h2⟩ | ⟨a, h1, h2⟩)
    · have hcc := hc c h1
      have hm := fun x => @left_mem on c x
      have hnil : leftR on c = [] := by
        rcases h : leftR on c with _ | ⟨x, L⟩
        · rfl
        · have hx := (hm x).1 (by rw [h]; simp)
          have := key _ (h2 x hx.1)
          rw [hx.2] at this
          cases this
      have hdone : oneR (on, false) c = match leftR on c with
        | [] => (on, true)
        | [x] => if hld on x = true then (on, false) else (letR on x, false)
        | _ => (on, false) := rfl
      rw [hcc, hnil] at hdone
      exact absurd (congrArg Prod.snd hdone) (by simp)
    · have h3 := hld_con (kz a h1) (key a h1)
      rw [key _ h2] at h3
      cases h3
  · refine hg.der a ?_ h
    rintro rfl
    rw [hz] at h
    cases h

end Go.Proofs.Ytegnjoonhabicaa
