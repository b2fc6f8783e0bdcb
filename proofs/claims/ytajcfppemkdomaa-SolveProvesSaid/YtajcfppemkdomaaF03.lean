/- Functions of the program, part 03. -/
import Derived.Test.YtajcfppemkdomaaF02
set_option linter.unusedVariables false
set_option linter.unusedSimpArgs false
set_option linter.unnecessarySimpa false
namespace Go.Proofs.Ytajcfppemkdomaa
open Go Go.Proofs Go.Abs

/-! ### A search's state -/
structure VS where
  value : Int
  level : Int
  reason : Option Nat
  last : Int
  score : Int

structure St where
  v : Nat → VS
  cl : Nat → Cl
  nc : Nat
  wt : Int → List Nat
  tr : Cl
  hd : Nat
  lv : List Nat
  ln : List Cl
  nx : List (Int × Int)

def upd {α : Type} (f : Nat → α) (i : Nat) (x : α) : Nat → α := fun j => if j = i then x else f j
theorem upd_same {α : Type} (f : Nat → α) (i : Nat) (x : α) : upd f i x i = x := by simp [upd]
theorem upd_other {α : Type} {f : Nat → α} {i j : Nat} {x : α} (h : j ≠ i) : upd f i x j = f j := by simp [upd, h]

/-- At which level a place of the trail is. -/
def lev (lv : List Nat) (p : Nat) : Nat := lv.countP fun x => decide (x ≤ p)
def tval (tr : Cl) (i : Nat) : Int := if (i : Int) ∈ tr then 1 else if -(i : Int) ∈ tr then -1 else 0
def lval (S : St) (a : Int) : Int := if a < 0 then -(S.v a.natAbs).value else (S.v a.natAbs).value
/-- A literal's level. -/
def llev (S : St) (a : Int) : Int := (S.v a.natAbs).level

structure Tr (n : Nat) (S : St) : Prop where
  nd : (S.tr.map Int.natAbs).Nodup
  rng : ∀ a ∈ S.tr, a ≠ 0 ∧ a.natAbs ≤ n
  val : ∀ i, 1 ≤ i → i ≤ n → (S.v i).value = tval S.tr i
  lvl : ∀ p (h : p < S.tr.length), llev S S.tr[p] = lev S.lv p
  lvs : S.lv.Pairwise (· < ·)
  lvh : ∀ x ∈ S.lv, x ≤ S.hd
  hdl : S.hd ≤ S.tr.length

theorem nodup_con : ∀ {l : Cl}, (l.map Int.natAbs).Nodup → ∀ a ∈ l, a ≠ 0 → ¬ -a ∈ l
  | [], _, a, h, _, _ => by simp at h
  | x :: l, hn, a, h, h0, hm => by
    rw [List.map_cons, List.nodup_cons] at hn
    obtain ⟨h1, h2⟩ := hn
    have k : ∀ b ∈ l, b.natAbs ≠ x.natAbs := fun b hb he => h1 (he ▸ List.mem_map_of_mem hb)
    rcases List.mem_cons.1 h with rfl | h
    · rcases List.mem_cons.1 hm with hm | hm
      · omega
      · exact k _ hm (Int.natAbs_neg _)
    · rcases List.mem_cons.1 hm with hm | hm
      · exact k a h (by rw [← hm, Int.natAbs_neg])
      · exact nodup_con h2 a h h0 hm

theorem nodup_abs : ∀ {l : Cl}, (l.map Int.natAbs).Nodup → ∀ a ∈ l, ∀ b ∈ l, a.natAbs = b.natAbs → a = b
  | [], _, a, h, _, _, _ => by simp at h
  | x :: l, hn, a, h, b, hb, he => by
    rw [List.map_cons, List.nodup_cons] at hn
    obtain ⟨h1, h2⟩ := hn
    have k : ∀ b ∈ l, b.natAbs ≠ x.natAbs := fun b hb he => h1 (he ▸ List.mem_map_of_mem hb)
    rcases List.mem_cons.1 h with h | h <;> rcases List.mem_cons.1 hb with hb | hb
    · rw [h, hb]
    · exact absurd (by rw [← he, h]) (k _ hb)
    · exact absurd (by rw [he, hb]) (k _ h)
    · exact nodup_abs h2 a h b hb he

section
variable {n : Nat} {S : St}
theorem Tr.con (t : Tr n S) {a : Int} (h : a ∈ S.tr) : ¬ -a ∈ S.tr := nodup_con t.nd a h (t.rng a h).1
theorem Tr.con' (t : Tr n S) {a : Int} (h : -a ∈ S.tr) : ¬ a ∈ S.tr := fun h2 => t.con h2 h
theorem tval_pos {tr : Cl} {i : Nat} (h : (i : Int) ∈ tr) : tval tr i = 1 := by simp [tval, h]
theorem tval_neg {tr : Cl} {i : Nat} (h1 : ¬ (i : Int) ∈ tr) (h : -(i : Int) ∈ tr) : tval tr i = -1 := by simp [tval, h, h1]
theorem tval_zero {tr : Cl} {i : Nat} (h1 : ¬ (i : Int) ∈ tr) (h : ¬ -(i : Int) ∈ tr) : tval tr i = 0 := by simp [tval, h, h1]

/-- What a literal's value tells. -/
theorem Tr.lval_eq (t : Tr n S) {a : Int} (h0 : a ≠ 0) (hn : a.natAbs ≤ n) : lval S a = if a ∈ S.tr then 1 else if -a ∈ S.tr then -1 else 0 := by
  unfold lval
  rw [t.val a.natAbs (by omega) hn]
  by_cases ha : a < 0
  · rw [if_pos ha]
    have e : ((a.natAbs : Nat) : Int) = -a := by omega
    unfold tval
    rw [e, Int.neg_neg]
    by_cases h1 : a ∈ S.tr
    · rw [if_neg (t.con h1), if_pos h1, if_pos h1]; rfl
    · by_cases h2 : -a ∈ S.tr
      · rw [if_pos h2, if_neg h1, if_pos h2]
      · rw [if_neg h2, if_neg h1, if_neg h1, if_neg h2]; rfl
  · rw [if_neg ha]
    have e : ((a.natAbs : Nat) : Int) = a := by omega
    unfold tval
    rw [e]
theorem Tr.lval_pos (t : Tr n S) {a : Int} (h0 : a ≠ 0) (hn : a.natAbs ≤ n) : 0 < lval S a ↔ a ∈ S.tr := by
  rw [t.lval_eq h0 hn]; by_cases h1 : a ∈ S.tr <;> by_cases h2 : -a ∈ S.tr <;> simp [h1, h2]
theorem Tr.lval_neg (t : Tr n S) {a : Int} (h0 : a ≠ 0) (hn : a.natAbs ≤ n) : lval S a < 0 ↔ -a ∈ S.tr := by
  rw [t.lval_eq h0 hn]; by_cases h1 : a ∈ S.tr <;> by_cases h2 : -a ∈ S.tr <;> simp [h1, h2]
  exact absurd h2 (t.con h1)
theorem Tr.lval_nn (t : Tr n S) {a : Int} (h0 : a ≠ 0) (hn : a.natAbs ≤ n) : 0 ≤ lval S a ↔ ¬ -a ∈ S.tr := by
  rw [← t.lval_neg h0 hn, Int.not_lt]
theorem Tr.lval_zero (t : Tr n S) {a : Int} (h0 : a ≠ 0) (hn : a.natAbs ≤ n) : lval S a = 0 ↔ ¬ a ∈ S.tr ∧ ¬ -a ∈ S.tr := by
  rw [t.lval_eq h0 hn]; by_cases h1 : a ∈ S.tr <;> by_cases h2 : -a ∈ S.tr <;> simp [h1, h2]

/-- The trail is no longer than there are variables. -/
theorem nodup_le : ∀ {m : Nat} {l : List Nat}, l.Nodup → (∀ x ∈ l, x < m) → l.length ≤ m
  | 0, [], _, _ => by simp
  | 0, x :: l, _, h => by have := h x (by simp); omega
  | m + 1, l, hn, h => by
    by_cases hm : m ∈ l
    · have h1 : (l.erase m).Nodup := hn.erase m
      have h2 := nodup_le (m := m) h1 fun x hx => by
        have h3 := h x (List.mem_of_mem_erase hx)
        have h4 : x ≠ m := fun he => by rw [he, List.Nodup.mem_erase_iff hn] at hx; exact hx.1 rfl
        omega
      rw [List.length_erase_of_mem hm] at h2
      omega
    · have := nodup_le (m := m) hn fun x hx => by
        have h3 := h x hx
        have h4 : x ≠ m := fun he => hm (he ▸ hx)
        omega
      omega
theorem Tr.len (t : Tr n S) : S.tr.length ≤ n := by
  have h := nodup_le (m := n) (l := S.tr.map fun a => a.natAbs - 1) (by
    have := t.nd
    rw [List.Nodup, List.pairwise_map] at this ⊢
    refine this.imp_of_mem fun {a b} ha hb hab => ?_
    have := (t.rng a ha).1; have := (t.rng b hb).1
    omega) (by
    intro x hx
    obtain ⟨a, ha, rfl⟩ := List.mem_map.1 hx
    have := t.rng a ha
    omega)
  simpa using h
theorem Tr.free (t : Tr n S) {a : Int} (h0 : a ≠ 0) (hn : a.natAbs ≤ n) (h1 : ¬ a ∈ S.tr) (h2 : ¬ -a ∈ S.tr) : S.tr.length < n := by
  have h := nodup_le (m := n) (l := (a :: S.tr).map fun a => a.natAbs - 1) (by
    have := t.nd
    rw [List.map_cons, List.nodup_cons]
    refine ⟨fun hm => ?_, ?_⟩
    · obtain ⟨b, hb, he⟩ := List.mem_map.1 hm
      have := (t.rng b hb).1
      rcases show b = a ∨ b = -a by omega with rfl | rfl
      · exact h1 hb
      · exact h2 hb
    · rw [List.Nodup, List.pairwise_map] at this ⊢
      refine this.imp_of_mem fun {a b} ha hb hab => ?_
      have := (t.rng a ha).1; have := (t.rng b hb).1
      omega) (by
    intro x hx
    obtain ⟨b, hb, rfl⟩ := List.mem_map.1 hx
    rcases List.mem_cons.1 hb with rfl | hb
    · omega
    · have := t.rng b hb
      omega)
  simp at h
  omega

/-! ### Levels -/
theorem lev_all {lv : List Nat} {p : Nat} (h : ∀ x ∈ lv, x ≤ p) : lev lv p = lv.length := by
  unfold lev; rw [List.countP_eq_length]; intro x hx; simpa using h x hx
theorem lev_le (lv : List Nat) (p : Nat) : lev lv p ≤ lv.length := List.countP_le_length
theorem lev_mono (lv : List Nat) {p q : Nat} (h : p ≤ q) : lev lv p ≤ lev lv q := by
  unfold lev
  exact List.countP_mono_left fun x _ hx => by simp at hx ⊢; omega
theorem lev_app {lv : List Nat} {m p : Nat} (h : p < m) : lev (lv ++ [m]) p = lev lv p := by
  unfold lev; rw [List.countP_append]; simp; omega
/-- Below the place where a level begins there are no higher ones, and behind it no lower ones. -/
theorem lev_lt {lv : List Nat} (hs : lv.Pairwise (· < ·)) {k p : Nat} (hk : k < lv.length) : p < lv[k] ↔ lev lv p ≤ k := by
  induction lv generalizing k with
  | nil => simp at hk
  | cons x lv ih =>
    rw [List.pairwise_cons] at hs
    unfold lev
    rw [List.countP_cons]
    cases k with
    | zero =>
      rw [List.getElem_cons_zero]
      by_cases hx : x ≤ p
      · simp [hx]
      · have : lv.countP (fun x => decide (x ≤ p)) = 0 := by
          rw [List.countP_eq_zero]; intro y hy; have := hs.1 y hy; simp; omega
        rw [this]; simp [hx]; omega
    | succ k =>
      rw [List.getElem_cons_succ]
      have h1 := ih hs.2 (k := k) (by simpa using hk)
      unfold lev at h1
      by_cases hx : x ≤ p
      · simp only [hx, decide_true, if_true]; omega
      · have h2 : x < lv[k]'(by simpa using hk) := hs.1 _ (List.getElem_mem _)
        simp only [hx, decide_false]
        have : lv.countP (fun x => decide (x ≤ p)) = 0 := by
          rw [List.countP_eq_zero]; intro y hy; have := hs.1 y hy; simp; omega
        simp only [this]
        simp
        omega
theorem lev_take {lv : List Nat} (hs : lv.Pairwise (· < ·)) {k p : Nat} (hk : k < lv.length) (hp : p < lv[k]) : lev (lv.take k) p = lev lv p := by
  have h : lv = lv.take k ++ lv.drop k := (List.take_append_drop k lv).symm
  conv => rhs; rw [h]
  unfold lev
  rw [List.countP_append]
  have : (lv.drop k).countP (fun x => decide (x ≤ p)) = 0 := by
    rw [List.countP_eq_zero]
    intro y hy
    rw [List.drop_eq_getElem_cons hk] at hy
    have hs2 := hs.sublist (List.drop_sublist k lv)
    rw [List.drop_eq_getElem_cons hk, List.pairwise_cons] at hs2
    rcases List.mem_cons.1 hy with rfl | hy
    · simp; omega
    · have := hs2.1 y hy; simp; omega
  omega

theorem mem_take_at {l : Cl} {a : Int} {k : Nat} (h : a ∈ l.take k) : ∃ (p : Nat) (hp : p < l.length), p < k ∧ l[p] = a := by
  obtain ⟨p, hp, he⟩ := List.getElem_of_mem h
  rw [List.length_take] at hp
  exact ⟨p, by omega, by omega, by rw [List.getElem_take] at he; exact he⟩
theorem at_mem_take {l : Cl} {k p : Nat} (hp : p < l.length) (hk : p < k) : l[p] ∈ l.take k := List.mem_take_iff_getElem.2 ⟨p, by omega, rfl⟩

/-- Of low level is what is on the trail's beginning. -/
theorem Tr.low (t : Tr n S) {a : Int} (ha : a ∈ S.tr) {k : Nat} (hk : k < S.lv.length) : a ∈ S.tr.take S.lv[k] ↔ llev S a ≤ k := by
  constructor
  · intro h
    obtain ⟨p, hp, h1, rfl⟩ := mem_take_at h
    rw [t.lvl p hp]
    have := (lev_lt t.lvs hk).1 h1
    omega
  · intro h
    obtain ⟨p, hp, rfl⟩ := List.getElem_of_mem ha
    rw [t.lvl p hp] at h
    exact at_mem_take hp ((lev_lt t.lvs hk).2 (by omega))
theorem Tr.lev_rng (t : Tr n S) {a : Int} (ha : a ∈ S.tr) : 0 ≤ llev S a ∧ llev S a ≤ S.lv.length := by
  obtain ⟨p, hp, rfl⟩ := List.getElem_of_mem ha
  rw [t.lvl p hp]
  have := lev_le S.lv p
  omega
theorem llev_neg (S : St) (a : Int) : llev S (-a) = llev S a := by unfold llev; rw [Int.natAbs_neg]
end

end Go.Proofs.Ytajcfppemkdomaa

set_option linter.unusedVariables false
set_option linter.unusedSimpArgs false
set_option linter.unnecessarySimpa false
namespace Go.Proofs.Ytajcfppemkdomaa
open Go Go.Proofs Go.Abs

structure Cls (n : Nat) (S : St) : Prop where
  c2 : ∀ j, j < S.nc → 2 ≤ (S.cl j).length
  cnd : ∀ j, j < S.nc → ((S.cl j).map Int.natAbs).Nodup
  crg : ∀ j, j < S.nc → ∀ a ∈ S.cl j, a ≠ 0 ∧ a.natAbs ≤ n
  wts : ∀ a j, j ∈ S.wt a → j < S.nc ∧ a ∈ (S.cl j).take 2
  wtc : ∀ j, j < S.nc → ∀ a ∈ (S.cl j).take 2, j ∈ S.wt a
  wnd : ∀ a, (S.wt a).Nodup

structure Rea (S : St) : Prop where
  rea : ∀ p (h : p < S.tr.length) j, (S.v (S.tr[p]).natAbs).reason = some j → j < S.nc ∧ S.tr[p] ∈ S.cl j ∧ ∀ b ∈ S.cl j, b ≠ S.tr[p] → -b ∈ S.tr.take p
  dec : ∀ p (h : p < S.tr.length), (S.v (S.tr[p]).natAbs).reason = none → lev S.lv p = 0 ∨ p ∈ S.lv

/-- A clause of which a watched literal fails, and was propagated, holds by the other one, as early. -/
def Wat (q : Nat) (S : St) (j : Nat) : Prop := ∀ x ∈ (S.cl j).take 2, -x ∈ S.tr.take q → ∃ y ∈ (S.cl j).take 2, y ∈ S.tr ∧ llev S y ≤ llev S x

structure Nxt (n : Nat) (S : St) : Prop where
  all : ∀ i, 1 ≤ i → i ≤ n → (S.v i).value = 0 → ((i : Int), (S.v i).score) ∈ S.nx
  rng : ∀ t ∈ S.nx, 1 ≤ t.1 ∧ t.1 ≤ n

structure Log (n : Nat) (l : List Cl) (S : St) : Prop where
  d0 : ∀ p (h : p < S.tr.length), lev S.lv p = 0 → Der (l ++ S.ln) [] S.tr[p]
  src : ∀ j, j < S.nc → ∃ c ∈ l ++ S.ln, ∀ a, a ∈ S.cl j ↔ a ∈ c
  rup : ∀ k (h : k < S.ln.length), Bad (l ++ S.ln.take k) (negs S.ln[k])
  lrg : ∀ c ∈ S.ln, c ≠ [] ∧ (c.map Int.natAbs).Nodup ∧ ∀ a ∈ c, a ≠ 0 ∧ a.natAbs ≤ n
  lnew : S.ln.Pairwise fun c d => ¬ ∀ a, a ∈ c ↔ a ∈ d

/-- Each of these that were learned is there. -/
def Lcv (L : List Cl) (S : St) : Prop := ∀ c ∈ L, (∃ a, c = [a] ∧ a ∈ S.tr ∧ llev S a = 0) ∨ ∃ j, j < S.nc ∧ ∀ a, a ∈ S.cl j ↔ a ∈ c

/-- Each of these clauses is told already. -/
def Cov (l : List Cl) (S : St) : Prop := ∀ c ∈ l, (∃ a ∈ c, -a ∈ c) ∨ (∃ a ∈ c, a ∈ S.tr ∧ llev S a = 0) ∨ ∃ j, j < S.nc ∧ ∀ a, a ∈ S.cl j ↔ a ∈ c

def Lvt (S : St) : Prop := ∀ x ∈ S.lv, x < S.tr.length

/-! ### A literal is let hold -/
def letS (S : St) (a : Int) (r : Option Nat) : St :=
  { S with v := upd S.v a.natAbs { S.v a.natAbs with value := if a < 0 then -1 else 1, level := S.lv.length, reason := r }, tr := S.tr ++ [a] }

section
variable {n : Nat} {l : List Cl} {S : St} {a : Int} {r : Option Nat}

theorem ne_abs (t : Tr n S) (h1 : ¬ a ∈ S.tr) (h2 : ¬ -a ∈ S.tr) {b : Int} (hb : b ∈ S.tr) : b.natAbs ≠ a.natAbs := by
  intro he
  rcases show b = a ∨ b = -a by omega with h | h
  · exact h1 (h ▸ hb)
  · exact h2 (h ▸ hb)
theorem letS_v {i : Nat} (h : i ≠ a.natAbs) : (letS S a r).v i = S.v i := upd_other h
theorem letS_at : (letS S a r).v a.natAbs = { S.v a.natAbs with value := if a < 0 then -1 else 1, level := S.lv.length, reason := r } := upd_same _ _ _
theorem letS_llev (t : Tr n S) (h1 : ¬ a ∈ S.tr) (h2 : ¬ -a ∈ S.tr) {b : Int} (hb : b ∈ S.tr) : llev (letS S a r) b = llev S b := by
  unfold llev; rw [letS_v (ne_abs t h1 h2 hb)]
theorem letS_llev' (t : Tr n S) (h1 : ¬ a ∈ S.tr) (h2 : ¬ -a ∈ S.tr) {b : Int} (hb : -b ∈ S.tr) : llev (letS S a r) b = llev S b := by
  rw [← llev_neg, letS_llev t h1 h2 hb, llev_neg]
theorem letS_lev : llev (letS S a r) a = S.lv.length := by unfold llev; rw [letS_at]

theorem tval_app {tr : Cl} {i : Nat} (h : i ≠ a.natAbs) : tval (tr ++ [a]) i = tval tr i := by
  unfold tval
  have h1 : ((i : Int) ∈ tr ++ [a]) ↔ (i : Int) ∈ tr := by
    simp only [List.mem_append, List.mem_singleton]
    refine ⟨fun h2 => h2.resolve_right fun h3 => h (by omega), .inl⟩
  have h2 : (-(i : Int) ∈ tr ++ [a]) ↔ -(i : Int) ∈ tr := by
    simp only [List.mem_append, List.mem_singleton]
    refine ⟨fun h2 => h2.resolve_right fun h3 => h (by omega), .inl⟩
  simp only [h1, h2]

theorem Tr.letS (t : Tr n S) (h0 : a ≠ 0) (hn : a.natAbs ≤ n) (h1 : ¬ a ∈ S.tr) (h2 : ¬ -a ∈ S.tr) : Tr n (letS S a r) where
  nd := by
    show ((S.tr ++ [a]).map Int.natAbs).Nodup
    rw [List.map_append, List.map_singleton, List.nodup_append]
    refine ⟨t.nd, by simp, fun x hx y hy => ?_⟩
    obtain ⟨b, hb, rfl⟩ := List.mem_map.1 hx
    rw [List.mem_singleton.1 hy]
    exact ne_abs t h1 h2 hb
  rng b hb := by
    rcases List.mem_append.1 (show b ∈ S.tr ++ [a] from hb) with hb | hb
    · exact t.rng b hb
    · rw [List.mem_singleton.1 hb]; exact ⟨h0, hn⟩
  val i hi hin := by
    show _ = tval (S.tr ++ [a]) i
    by_cases he : i = a.natAbs
    · subst he
      rw [letS_at]
      dsimp only
      by_cases hneg : a < 0
      · rw [if_pos hneg]
        have e : ((a.natAbs : Nat) : Int) = -a := by omega
        unfold tval
        rw [e, Int.neg_neg, if_neg (by simp [h2]; omega), if_pos (by simp)]
      · rw [if_neg hneg]
        have e : ((a.natAbs : Nat) : Int) = a := by omega
        unfold tval
        rw [e, if_pos (by simp)]
    · rw [letS_v he, t.val i hi hin, tval_app he]
  lvl p h := by
    have h' : p < (S.tr ++ [a]).length := h
    show llev _ (S.tr ++ [a])[p] = lev S.lv p
    by_cases hp : p < S.tr.length
    · have e : (S.tr ++ [a])[p] = S.tr[p] := List.getElem_append_left hp
      rw [e, letS_llev t h1 h2 (List.getElem_mem _), t.lvl p hp]
    · have hp' : p = S.tr.length := by rw [List.length_append, List.length_singleton] at h'; omega
      subst hp'
      rw [List.getElem_concat_length rfl, letS_lev, lev_all fun x hx => Nat.le_trans (t.lvh x hx) t.hdl]
  lvs := t.lvs
  lvh := t.lvh
  hdl := by
    show S.hd ≤ (S.tr ++ [a]).length
    rw [List.length_append]; have := t.hdl; omega

theorem Cls.letS (c : Cls n S) : Cls n (letS S a r) := ⟨c.c2, c.cnd, c.crg, c.wts, c.wtc, c.wnd⟩

theorem Rea.letS (k : Rea S) (t : Tr n S) (h1 : ¬ a ∈ S.tr) (h2 : ¬ -a ∈ S.tr)
    (hr : ∀ j, r = some j → j < S.nc ∧ a ∈ S.cl j ∧ ∀ b ∈ S.cl j, b ≠ a → -b ∈ S.tr) (hd : r = none → S.lv.length = 0 ∨ S.tr.length ∈ S.lv) : Rea (letS S a r) where
  rea p h j hj := by
    have h' : p < (S.tr ++ [a]).length := h
    have hj : ((Go.Proofs.Ytajcfppemkdomaa.letS S a r).v ((S.tr ++ [a])[p]).natAbs).reason = some j := hj
    show j < S.nc ∧ (S.tr ++ [a])[p] ∈ S.cl j ∧ ∀ b ∈ S.cl j, b ≠ (S.tr ++ [a])[p] → -b ∈ (S.tr ++ [a]).take p
    by_cases hp : p < S.tr.length
    · have e : (S.tr ++ [a])[p] = S.tr[p] := List.getElem_append_left hp
      rw [e] at hj ⊢
      rw [letS_v (ne_abs t h1 h2 (List.getElem_mem _))] at hj
      rw [List.take_append_of_le_length (by omega)]
      exact k.rea p hp j hj
    · have hp' : p = S.tr.length := by rw [List.length_append, List.length_singleton] at h'; omega
      subst hp'
      rw [List.getElem_concat_length rfl] at hj ⊢
      rw [letS_at] at hj
      rw [List.take_left]
      exact hr j hj
  dec p h hj := by
    have h' : p < (S.tr ++ [a]).length := h
    have hj : ((Go.Proofs.Ytajcfppemkdomaa.letS S a r).v ((S.tr ++ [a])[p]).natAbs).reason = none := hj
    show lev S.lv p = 0 ∨ p ∈ S.lv
    by_cases hp : p < S.tr.length
    · have e : (S.tr ++ [a])[p] = S.tr[p] := List.getElem_append_left hp
      rw [e, letS_v (ne_abs t h1 h2 (List.getElem_mem _))] at hj
      exact k.dec p hp hj
    · have hp' : p = S.tr.length := by rw [List.length_append, List.length_singleton] at h'; omega
      subst hp'
      rw [List.getElem_concat_length rfl, letS_at] at hj
      rcases hd hj with h3 | h3
      · left; have := lev_le S.lv S.tr.length; omega
      · exact .inr h3

theorem Wat.letS {q j : Nat} (w : Wat q S j) (t : Tr n S) (hq : q ≤ S.tr.length) (h1 : ¬ a ∈ S.tr) (h2 : ¬ -a ∈ S.tr) : Wat q (letS S a r) j := by
  intro x hx hm
  have hm : -x ∈ (S.tr ++ [a]).take q := hm
  rw [List.take_append_of_le_length hq] at hm
  obtain ⟨y, hy, hy2, hy3⟩ := w x hx hm
  refine ⟨y, hy, List.mem_append_left _ hy2, ?_⟩
  rw [letS_llev t h1 h2 hy2, letS_llev' t h1 h2 (List.mem_of_mem_take hm)]
  exact hy3

theorem Nxt.letS (k : Nxt n S) : Nxt n (letS S a r) where
  all i hi hin hv := by
    by_cases he : i = a.natAbs
    · subst he
      rw [letS_at] at hv
      exfalso
      dsimp only at hv
      split at hv <;> omega
    · rw [letS_v he] at hv ⊢
      exact k.all i hi hin hv
  rng := k.rng

theorem Log.letS (k : Log n l S) (t : Tr n S) (h1 : ¬ a ∈ S.tr) (h2 : ¬ -a ∈ S.tr) (hd : S.lv = [] → Der (l ++ S.ln) [] a) : Log n l (letS S a r) where
  d0 p h hl := by
    have h' : p < (S.tr ++ [a]).length := h
    have hl : lev S.lv p = 0 := hl
    show Der (l ++ S.ln) [] (S.tr ++ [a])[p]
    by_cases hp : p < S.tr.length
    · rw [List.getElem_append_left hp]; exact k.d0 p hp hl
    · have hp' : p = S.tr.length := by rw [List.length_append, List.length_singleton] at h'; omega
      subst hp'
      rw [List.getElem_concat_length rfl]
      rw [lev_all fun x hx => Nat.le_trans (t.lvh x hx) t.hdl] at hl
      exact hd (List.length_eq_zero_iff.1 hl)
  src := k.src
  rup := k.rup
  lrg := k.lrg
  lnew := k.lnew

theorem Lcv.letS {L : List Cl} (k : Lcv L S) (t : Tr n S) (h1 : ¬ a ∈ S.tr) (h2 : ¬ -a ∈ S.tr) : Lcv L (letS S a r) := by
  intro c hc
  rcases k c hc with ⟨b, h3, h4, h5⟩ | h3
  · exact .inl ⟨b, h3, List.mem_append_left _ h4, by rw [letS_llev t h1 h2 h4]; exact h5⟩
  · exact .inr h3

theorem Cov.letS {d : List Cl} (k : Cov d S) (t : Tr n S) (h1 : ¬ a ∈ S.tr) (h2 : ¬ -a ∈ S.tr) : Cov d (letS S a r) := by
  intro c hc
  rcases k c hc with h3 | ⟨b, h3, h4, h5⟩ | h3
  · exact .inl h3
  · exact .inr (.inl ⟨b, h3, List.mem_append_left _ h4, by rw [letS_llev t h1 h2 h4]; exact h5⟩)
  · exact .inr (.inr h3)

theorem Lvt.letS (k : Lvt S) : Lvt (letS S a r) := by
  intro x hx
  have := k x hx
  show x < (S.tr ++ [a]).length
  rw [List.length_append]; omega
end

/-! ### Back to a level -/
def backS (S : St) (k : Nat) (nx : List (Int × Int)) : St :=
  { S with
    v := fun i => if i ∈ (S.tr.drop (S.lv.getD k 0)).map Int.natAbs then { S.v i with last := (S.v i).value, value := 0, reason := none } else S.v i
    tr := S.tr.take (S.lv.getD k 0), lv := S.lv.take k, hd := S.lv.getD k 0, nx := nx }

section
variable {n : Nat} {l : List Cl} {S : St} {k : Nat} {nx : List (Int × Int)}
theorem mem_split {tr : Cl} (h : (tr.map Int.natAbs).Nodup) (b : Nat) {a c : Int} (ha : a ∈ tr.take b) (hc : c ∈ tr.drop b) : a.natAbs ≠ c.natAbs := by
  rw [← List.take_append_drop b tr, List.map_append, List.nodup_append] at h
  exact h.2.2 _ (List.mem_map_of_mem ha) _ (List.mem_map_of_mem hc)
theorem backS_v {a : Int} (t : Tr n S) (ha : a ∈ S.tr.take (S.lv.getD k 0)) : (backS S k nx).v a.natAbs = S.v a.natAbs := by
  show (if _ then _ else _) = _
  rw [if_neg]
  intro hm
  obtain ⟨c, hc, he⟩ := List.mem_map.1 hm
  exact mem_split t.nd _ ha hc he.symm
theorem backS_llev {a : Int} (t : Tr n S) (ha : a ∈ S.tr.take (S.lv.getD k 0)) : llev (backS S k nx) a = llev S a := by unfold llev; rw [backS_v t ha]
theorem backS_lev {a : Int} : llev (backS S k nx) a = llev S a := by
  unfold llev
  show (if _ then _ else _ : VS).level = _
  split <;> rfl
theorem getD_of {lv : List Nat} (hk : k < lv.length) : lv.getD k 0 = lv[k] := by simp [List.getD_eq_getElem?_getD, hk]

theorem Tr.backS (t : Tr n S) (hk : k < S.lv.length) (hl : Lvt S) : Tr n (backS S k nx) where
  nd := by
    show ((S.tr.take _).map Int.natAbs).Nodup
    rw [List.map_take]
    exact t.nd.sublist (List.take_sublist _ _)
  rng a ha := t.rng a (List.mem_of_mem_take ha)
  val i hi hin := by
    show (if _ then _ else _ : VS).value = tval (S.tr.take (S.lv.getD k 0)) i
    by_cases hm : i ∈ (S.tr.drop (S.lv.getD k 0)).map Int.natAbs
    · rw [if_pos hm]
      obtain ⟨c, hc, rfl⟩ := List.mem_map.1 hm
      rw [tval_zero (fun h => mem_split t.nd _ h hc (by simp)) (fun h => mem_split t.nd _ h hc (by simp))]
    · rw [if_neg hm, t.val i hi hin]
      have h1 : ∀ x : Int, x.natAbs = i → (x ∈ S.tr ↔ x ∈ S.tr.take (S.lv.getD k 0)) := fun x hx => by
        refine ⟨fun h => ?_, List.mem_of_mem_take⟩
        rw [← List.take_append_drop (S.lv.getD k 0) S.tr] at h
        rcases List.mem_append.1 h with h | h
        · exact h
        · exact absurd (List.mem_map.2 ⟨x, h, hx⟩) hm
      unfold tval
      simp only [h1 (i : Int) (by simp), h1 (-(i : Int)) (by simp)]
  lvl p h := by
    have h' : p < (S.tr.take (S.lv.getD k 0)).length := h
    rw [List.length_take] at h'
    have e : (Go.Proofs.Ytajcfppemkdomaa.backS S k nx).tr[p] = S.tr[p]'(by omega) := List.getElem_take
    rw [e, backS_lev, t.lvl p (by omega)]
    show _ = ((lev (S.lv.take k) p : Nat) : Int)
    rw [getD_of hk] at h'
    rw [lev_take t.lvs hk (by omega)]
  lvs := t.lvs.sublist (List.take_sublist _ _)
  lvh x hx := by
    have hx : x ∈ S.lv.take k := hx
    show x ≤ S.lv.getD k 0
    rw [getD_of hk]
    obtain ⟨i, hi, rfl⟩ := List.getElem_of_mem hx
    rw [List.length_take] at hi
    rw [List.getElem_take]
    exact Nat.le_of_lt (List.pairwise_iff_getElem.1 t.lvs i k (by omega) hk (by omega))
  hdl := by
    show S.lv.getD k 0 ≤ (S.tr.take _).length
    rw [List.length_take]
    have := hl _ (List.getElem_mem hk)
    rw [getD_of hk]
    omega

theorem Cls.backS (c : Cls n S) : Cls n (backS S k nx) := ⟨c.c2, c.cnd, c.crg, c.wts, c.wtc, c.wnd⟩

theorem Rea.backS (c : Rea S) (t : Tr n S) (hk : k < S.lv.length) : Rea (backS S k nx) := by
  have key : ∀ p (h : p < (Go.Proofs.Ytajcfppemkdomaa.backS S k nx).tr.length), ∃ (h2 : p < S.tr.length), p < S.lv.getD k 0 ∧ (Go.Proofs.Ytajcfppemkdomaa.backS S k nx).tr[p] = S.tr[p] ∧ ((Go.Proofs.Ytajcfppemkdomaa.backS S k nx).v ((Go.Proofs.Ytajcfppemkdomaa.backS S k nx).tr[p]).natAbs).reason = (S.v (S.tr[p]).natAbs).reason := by
    intro p h
    have h' : p < (S.tr.take (S.lv.getD k 0)).length := h
    rw [List.length_take] at h'
    have e : (Go.Proofs.Ytajcfppemkdomaa.backS S k nx).tr[p] = S.tr[p]'(by omega) := List.getElem_take
    refine ⟨by omega, by omega, e, ?_⟩
    rw [e, backS_v t (at_mem_take (by omega) (by omega))]
  constructor
  · intro p h j hj
    obtain ⟨h2, h3, h4, h5⟩ := key p h
    rw [h5] at hj
    obtain ⟨h6, h7, h8⟩ := c.rea p h2 j hj
    rw [h4]
    refine ⟨h6, h7, fun b hb hne => ?_⟩
    show -b ∈ (S.tr.take (S.lv.getD k 0)).take p
    rw [List.take_take, Nat.min_eq_left (by omega)]
    exact h8 b hb hne
  · intro p h hj
    obtain ⟨h2, h3, h4, h5⟩ := key p h
    rw [h5] at hj
    show lev (S.lv.take k) p = 0 ∨ p ∈ S.lv.take k
    rw [getD_of hk] at h3
    rw [lev_take t.lvs hk h3]
    rcases c.dec p h2 hj with h6 | h6
    · exact .inl h6
    · right
      obtain ⟨i, hi, he⟩ := List.getElem_of_mem h6
      have hik : i < k := by
        refine Classical.byContradiction fun hn => ?_
        by_cases hik : i = k
        · subst hik; omega
        · have := List.pairwise_iff_getElem.1 t.lvs k i hk hi (by omega); omega
      exact List.mem_take_iff_getElem.2 ⟨i, by omega, he⟩

theorem Wat.backS {q j : Nat} (w : Wat q S j) (t : Tr n S) (hk : k < S.lv.length) (hq : S.lv.getD k 0 ≤ q) : Wat (S.lv.getD k 0) (backS S k nx) j := by
  intro x hx hm
  have hm : -x ∈ (S.tr.take (S.lv.getD k 0)).take (S.lv.getD k 0) := hm
  rw [List.take_take, Nat.min_self] at hm
  obtain ⟨y, hy, hy2, hy3⟩ := w x hx ((List.take_subset_take_left S.tr hq) hm)
  refine ⟨y, hy, ?_, by rw [backS_lev, backS_lev]; exact hy3⟩
  show y ∈ S.tr.take (S.lv.getD k 0)
  rw [getD_of hk] at hm ⊢
  have h1 := (t.low (List.mem_of_mem_take hm) hk).1 hm
  rw [llev_neg] at h1
  exact (t.low hy2 hk).2 (by omega)

theorem Nxt.backS (c : Nxt n S) (t : Tr n S) (hnx : ∀ x ∈ S.nx, x ∈ nx) (hun : ∀ a ∈ S.tr.drop (S.lv.getD k 0), ((a.natAbs : Int), (S.v a.natAbs).score) ∈ nx)
    (hr : ∀ x ∈ nx, x ∈ S.nx ∨ ∃ a ∈ S.tr.drop (S.lv.getD k 0), x.1 = a.natAbs) : Nxt n (backS S k nx) where
  all i hi hin hv := by
    have hv : (if i ∈ (S.tr.drop (S.lv.getD k 0)).map Int.natAbs then { S.v i with last := (S.v i).value, value := 0, reason := none } else S.v i : VS).value = 0 := hv
    show ((i : Int), (if i ∈ (S.tr.drop (S.lv.getD k 0)).map Int.natAbs then { S.v i with last := (S.v i).value, value := 0, reason := none } else S.v i : VS).score) ∈ nx
    by_cases hm : i ∈ (S.tr.drop (S.lv.getD k 0)).map Int.natAbs
    · rw [if_pos hm]
      obtain ⟨a, ha, rfl⟩ := List.mem_map.1 hm
      exact hun a ha
    · rw [if_neg hm] at hv ⊢
      exact hnx _ (c.all i hi hin hv)
  rng x hx := by
    rcases hr x hx with h | ⟨a, ha, he⟩
    · exact c.rng x h
    · have := t.rng a (List.mem_of_mem_drop ha)
      rw [he]; omega

theorem zero_take (t : Tr n S) (hk : k < S.lv.length) {a : Int} (ha : a ∈ S.tr) (hl : llev S a = 0) : a ∈ S.tr.take (S.lv.getD k 0) := by
  rw [getD_of hk]
  exact (t.low ha hk).2 (by omega)

theorem Log.backS (c : Log n l S) (t : Tr n S) (hk : k < S.lv.length) : Log n l (backS S k nx) where
  d0 p h hl := by
    have h' : p < (S.tr.take (S.lv.getD k 0)).length := h
    rw [List.length_take] at h'
    have e : (Go.Proofs.Ytajcfppemkdomaa.backS S k nx).tr[p] = S.tr[p]'(by omega) := List.getElem_take
    rw [e]
    refine c.d0 p (by omega) ?_
    have hl : lev (S.lv.take k) p = 0 := hl
    rw [getD_of hk] at h'
    rw [← hl, lev_take t.lvs hk (by omega)]
  src := c.src
  rup := c.rup
  lrg := c.lrg
  lnew := c.lnew

theorem Lcv.backS {L : List Cl} (c : Lcv L S) (t : Tr n S) (hk : k < S.lv.length) : Lcv L (backS S k nx) := by
  intro x hx
  rcases c x hx with ⟨b, h3, h4, h5⟩ | h3
  · exact .inl ⟨b, h3, zero_take t hk h4 h5, by rw [backS_lev]; exact h5⟩
  · exact .inr h3

theorem Cov.backS {d : List Cl} (c : Cov d S) (t : Tr n S) (hk : k < S.lv.length) : Cov d (backS S k nx) := by
  intro x hx
  rcases c x hx with h3 | ⟨b, h3, h4, h5⟩ | h3
  · exact .inl h3
  · exact .inr (.inl ⟨b, h3, zero_take t hk h4 h5, by rw [backS_lev]; exact h5⟩)
  · exact .inr (.inr h3)

theorem Lvt.backS (c : Lvt S) (t : Tr n S) (hk : k < S.lv.length) : Lvt (backS S k nx) := by
  intro x hx
  have hx : x ∈ S.lv.take k := hx
  show x < (S.tr.take (S.lv.getD k 0)).length
  rw [List.length_take, getD_of hk]
  obtain ⟨i, hi, rfl⟩ := List.getElem_of_mem hx
  rw [List.length_take] at hi
  rw [List.getElem_take]
  have := List.pairwise_iff_getElem.1 t.lvs i k (by omega) hk (by omega)
  have := c _ (List.getElem_mem hk)
  omega
end

end Go.Proofs.Ytajcfppemkdomaa

set_option linter.unusedVariables false
set_option linter.unusedSimpArgs false
set_option linter.unnecessarySimpa false
namespace Go.Proofs.Ytajcfppemkdomaa
open Go Go.Proofs Go.Abs

/-- What a search keeps; d: the clauses that were added. -/
structure Inv (n : Nat) (l d L : List Cl) (S : St) : Prop where
  t : Tr n S
  c : Cls n S
  r : Rea S
  x : Nxt n S
  g : Log n l S
  lc : Lcv L S
  cv : Cov d S
  lt : Lvt S
  w : ∀ j, j < S.nc → Wat S.hd S j

section
variable {n : Nat} {l d L : List Cl} {S : St}

theorem Inv.letS (i : Inv n l d L S) {a : Int} {r : Option Nat} (h0 : a ≠ 0) (hn : a.natAbs ≤ n) (h1 : ¬ a ∈ S.tr) (h2 : ¬ -a ∈ S.tr)
    (hr : ∀ j, r = some j → j < S.nc ∧ a ∈ S.cl j ∧ ∀ b ∈ S.cl j, b ≠ a → -b ∈ S.tr) (hd : r = none → S.lv = []) (hder : r = none → Der (l ++ S.ln) [] a) : Inv n l d L (letS S a r) where
  t := i.t.letS h0 hn h1 h2
  c := i.c.letS
  r := i.r.letS i.t h1 h2 hr fun h => .inl (by rw [hd h]; rfl)
  x := i.x.letS
  g := i.g.letS i.t h1 h2 fun hl => by
    cases r with
    | none => exact hder rfl
    | some j =>
      obtain ⟨h3, h4, h5⟩ := hr j rfl
      obtain ⟨c, hc, he⟩ := i.g.src j h3
      refine Der.unit c a hc ((he a).1 h4) fun b hb hne => ?_
      obtain ⟨p, hp, hb2⟩ := List.getElem_of_mem (h5 b ((he b).2 hb) hne)
      rw [← hb2]
      exact i.g.d0 p hp (by rw [hl]; rfl)
  lc := i.lc.letS i.t h1 h2
  cv := i.cv.letS i.t h1 h2
  lt := i.lt.letS
  w j hj := (i.w j hj).letS i.t i.t.hdl h1 h2

/-! ### The clause's literals change places -/
def clS (S : St) (cl' : Nat → Cl) (wt' : Int → List Nat) : St := { S with cl := cl', wt := wt' }

theorem Rea.clS (k : Rea S) {cl' : Nat → Cl} {wt' : Int → List Nat} (hp : ∀ j a, a ∈ cl' j ↔ a ∈ S.cl j) : Rea (clS S cl' wt') where
  rea p h j hj := by
    obtain ⟨h1, h2, h3⟩ := k.rea p h j hj
    exact ⟨h1, (hp _ _).2 h2, fun b hb => h3 b ((hp _ _).1 hb)⟩
  dec := k.dec
theorem Log.clS (k : Log n l S) {cl' : Nat → Cl} {wt' : Int → List Nat} (hp : ∀ j a, a ∈ cl' j ↔ a ∈ S.cl j) : Log n l (clS S cl' wt') where
  d0 := k.d0
  src j hj := by
    obtain ⟨c, h1, h2⟩ := k.src j hj
    exact ⟨c, h1, fun a => (hp j a).trans (h2 a)⟩
  rup := k.rup
  lrg := k.lrg
  lnew := k.lnew
theorem Lcv.clS (k : Lcv L S) {cl' : Nat → Cl} {wt' : Int → List Nat} (hp : ∀ j a, a ∈ cl' j ↔ a ∈ S.cl j) : Lcv L (clS S cl' wt') := by
  intro c hc
  rcases k c hc with h | ⟨j, h1, h2⟩
  · exact .inl h
  · exact .inr ⟨j, h1, fun a => (hp j a).trans (h2 a)⟩
theorem Cov.clS (k : Cov d S) {cl' : Nat → Cl} {wt' : Int → List Nat} (hp : ∀ j a, a ∈ cl' j ↔ a ∈ S.cl j) : Cov d (clS S cl' wt') := by
  intro c hc
  rcases k c hc with h | h | ⟨j, h1, h2⟩
  · exact .inl h
  · exact .inr (.inl h)
  · exact .inr (.inr ⟨j, h1, fun a => (hp j a).trans (h2 a)⟩)

/-- The first two literals of a clause change places. -/
def swS (S : St) (j : Nat) (c : Cl) : St := clS S (upd S.cl j c) S.wt
theorem swS_mem {j : Nat} {x y : Int} {r : Cl} (hc : S.cl j = x :: y :: r) : ∀ i a, a ∈ upd S.cl j (y :: x :: r) i ↔ a ∈ S.cl i := by
  intro i a
  unfold upd
  split
  · rename_i h; subst h; rw [hc]; simp only [List.mem_cons]; constructor <;> rintro (h | h | h) <;> simp [h]
  · exact Iff.rfl
theorem swS_two {j : Nat} {x y : Int} {r : Cl} (hc : S.cl j = x :: y :: r) : ∀ i a, a ∈ (upd S.cl j (y :: x :: r) i).take 2 ↔ a ∈ (S.cl i).take 2 := by
  intro i a
  unfold upd
  split
  · rename_i h; subst h; rw [hc]; simp only [List.take_succ_cons, List.take_zero, List.mem_cons, List.not_mem_nil, or_false]; constructor <;> rintro (h | h) <;> simp [h]
  · exact Iff.rfl
theorem Wat.two {q j : Nat} {cl' : Nat → Cl} {wt' : Int → List Nat} (w : Wat q S j) (h2 : ∀ a, a ∈ (cl' j).take 2 ↔ a ∈ (S.cl j).take 2) : Wat q (clS S cl' wt') j := by
  intro x hx hm
  obtain ⟨y, h3, h4⟩ := w x ((h2 x).1 hx) hm
  exact ⟨y, (h2 y).2 h3, h4⟩
theorem Inv.swS (i : Inv n l d L S) {j : Nat} {x y : Int} {r : Cl} (hc : S.cl j = x :: y :: r) : Inv n l d L (swS S j (y :: x :: r)) where
  t := ⟨i.t.nd, i.t.rng, i.t.val, i.t.lvl, i.t.lvs, i.t.lvh, i.t.hdl⟩
  c := {
    c2 := fun k hk => by
      show 2 ≤ (upd S.cl j (y :: x :: r) k).length
      unfold upd; split
      · simp
      · exact i.c.c2 k hk
    cnd := fun k hk => by
      show ((upd S.cl j (y :: x :: r) k).map Int.natAbs).Nodup
      unfold upd; split
      · rename_i h; subst h
        have := i.c.cnd k hk
        rw [hc] at this
        exact (List.Perm.swap _ _ _).nodup this
      · exact i.c.cnd k hk
    crg := fun k hk a ha => i.c.crg k hk a ((swS_mem hc k a).1 ha)
    wts := fun a k hk => ⟨(i.c.wts a k hk).1, (swS_two hc k a).2 (i.c.wts a k hk).2⟩
    wtc := fun k hk a ha => i.c.wtc k hk a ((swS_two hc k a).1 ha)
    wnd := i.c.wnd }
  r := i.r.clS (swS_mem hc)
  x := i.x.1 |> fun h => ⟨h, i.x.2⟩
  g := i.g.clS (swS_mem hc)
  lc := i.lc.clS (swS_mem hc)
  cv := i.cv.clS (swS_mem hc)
  lt := i.lt
  w k hk := (i.w k hk).two (swS_two hc k)

/-- Another literal of a clause is watched. -/
def mvW (S : St) (j : Nat) (nt a : Int) : Int → List Nat := fun b => if b = nt then (S.wt nt).erase j else if b = a then S.wt a ++ [j] else S.wt b
def mvS (S : St) (j : Nat) (nt a : Int) (c : Cl) : St := clS S (upd S.cl j c) (mvW S j nt a)

theorem mv_perm {x nt a : Int} {r1 r2 : Cl} : (x :: a :: (r1 ++ nt :: r2)).Perm (x :: nt :: (r1 ++ a :: r2)) := by
  refine List.Perm.cons _ ?_
  refine (List.Perm.cons _ (List.perm_middle)).trans ?_
  refine (List.Perm.swap _ _ _).trans ?_
  exact List.Perm.cons _ (List.perm_middle.symm)

theorem mv_ne {x nt a : Int} {r1 r2 : Cl} (h : ((x :: nt :: (r1 ++ a :: r2)).map Int.natAbs).Nodup) : x ≠ nt ∧ x ≠ a ∧ a ≠ nt := by
  simp only [List.map_cons, List.map_append, List.nodup_cons, List.mem_cons, List.mem_append, not_or] at h
  refine ⟨fun e => h.1.1 (by rw [e]), fun e => h.1.2.2.1 (by rw [e]), fun e => h.2.1.2.1 (by rw [e])⟩

theorem Inv.mvS (i : Inv n l d L S) {j : Nat} (hj : j < S.nc) {x nt a : Int} {r1 r2 : Cl} (hc : S.cl j = x :: nt :: (r1 ++ a :: r2))
    (hw : Wat S.hd (mvS S j nt a (x :: a :: (r1 ++ nt :: r2))) j) : Inv n l d L (mvS S j nt a (x :: a :: (r1 ++ nt :: r2))) := by
  have hnd := i.c.cnd j hj
  rw [hc] at hnd
  obtain ⟨e1, e2, e3⟩ := mv_ne hnd
  have hm : ∀ k b, b ∈ upd S.cl j (x :: a :: (r1 ++ nt :: r2)) k ↔ b ∈ S.cl k := by
    intro k b
    unfold upd; split
    · rename_i h; subst h; rw [hc]; exact mv_perm.mem_iff
    · exact Iff.rfl
  have hja : ¬ j ∈ S.wt a := fun h => by
    have := (i.c.wts a j h).2
    rw [hc] at this
    simp only [List.take_succ_cons, List.take_zero, List.mem_cons, List.not_mem_nil, or_false] at this
    rcases this with h | h
    · exact e2 h.symm
    · exact e3 h
  refine ⟨⟨i.t.nd, i.t.rng, i.t.val, i.t.lvl, i.t.lvs, i.t.lvh, i.t.hdl⟩, ⟨?_, ?_, fun k hk b hb => i.c.crg k hk b ((hm k b).1 hb), ?_, ?_, ?_⟩, i.r.clS hm, ⟨i.x.1, i.x.2⟩, i.g.clS hm, i.lc.clS hm, i.cv.clS hm, i.lt, ?_⟩
  · intro k hk
    show 2 ≤ (upd S.cl j (x :: a :: (r1 ++ nt :: r2)) k).length
    unfold upd; split
    · simp
    · exact i.c.c2 k hk
  · intro k hk
    show ((upd S.cl j (x :: a :: (r1 ++ nt :: r2)) k).map Int.natAbs).Nodup
    unfold upd; split
    · exact (mv_perm.map _).symm.nodup hnd
    · exact i.c.cnd k hk
  · intro b k hk
    have hk : k ∈ mvW S j nt a b := hk
    show k < S.nc ∧ b ∈ (upd S.cl j (x :: a :: (r1 ++ nt :: r2)) k).take 2
    unfold mvW at hk
    split at hk
    · rename_i h; subst h
      have h1 := (List.Nodup.mem_erase_iff (i.c.wnd b)).1 hk
      rw [upd_other h1.1]
      exact i.c.wts b k h1.2
    · split at hk
      · rename_i h; subst h
        rcases List.mem_append.1 hk with h1 | h1
        · have : k ≠ j := fun e => hja (e ▸ h1)
          rw [upd_other this]
          exact i.c.wts b k h1
        · rw [List.mem_singleton.1 h1, upd_same]
          exact ⟨hj, by simp⟩
      · rename_i h1 h2
        obtain ⟨h3, h4⟩ := i.c.wts b k hk
        refine ⟨h3, ?_⟩
        unfold upd; split
        · rename_i h; subst h
          rw [hc] at h4
          simp only [List.take_succ_cons, List.take_zero, List.mem_cons, List.not_mem_nil, or_false] at h4 ⊢
          rcases h4 with h4 | h4
          · exact .inl h4
          · exact absurd h4 h1
        · exact h4
  · intro k hk b hb
    have hb : b ∈ (upd S.cl j (x :: a :: (r1 ++ nt :: r2)) k).take 2 := hb
    show k ∈ mvW S j nt a b
    unfold mvW
    by_cases h : k = j
    · subst h
      rw [upd_same] at hb
      simp only [List.take_succ_cons, List.take_zero, List.mem_cons, List.not_mem_nil, or_false] at hb
      rcases hb with rfl | rfl
      · rw [if_neg e1, if_neg e2]
        exact i.c.wtc k hk b (by rw [hc]; simp)
      · rw [if_neg e3, if_pos rfl]; simp
    · rw [upd_other h] at hb
      have h1 := i.c.wtc k hk b hb
      split
      · rename_i h2; subst h2
        exact (List.Nodup.mem_erase_iff (i.c.wnd b)).2 ⟨h, h1⟩
      · split
        · rename_i h2; subst h2; exact List.mem_append_left _ h1
        · exact h1
  · intro b
    show (mvW S j nt a b).Nodup
    unfold mvW
    split
    · exact (i.c.wnd nt).erase j
    · split
      · rw [List.nodup_append]
        refine ⟨i.c.wnd a, by simp, fun y hy z hz => ?_⟩
        rw [List.mem_singleton.1 hz]
        exact fun e => hja (e ▸ hy)
      · exact i.c.wnd b
  · intro k hk
    by_cases h : k = j
    · subst h; exact hw
    · exact (i.w k hk).two fun b => by rw [upd_other h]

/-! ### A visit -/
theorem Wat.weak {q q' j : Nat} (w : Wat q S j) (h : q' ≤ q) : Wat q' S j := fun x hx hm => w x hx (List.take_subset_take_left S.tr h hm)

theorem take_succ_mem {tr : Cl} {q : Nat} (h : q < tr.length) {b : Int} (hb : b ∈ tr.take (q + 1)) : b ∈ tr.take q ∨ b = tr[q] := by
  rw [List.take_add_one, List.getElem?_eq_getElem h, Option.toList_some] at hb
  rcases List.mem_append.1 hb with hb | hb
  · exact .inl hb
  · exact .inr (List.mem_singleton.1 hb)

theorem Tr.top (t : Tr n S) (h : S.hd < S.tr.length) : llev S S.tr[S.hd] = S.lv.length := by
  rw [t.lvl _ h, lev_all t.lvh]

theorem wat_first (t : Tr n S) (h : S.hd < S.tr.length) {j : Nat} {x nt : Int} {r : Cl} (hc : S.cl j = x :: nt :: r) (hnt : S.tr[S.hd] = -nt) (hx : x ∈ S.tr) : Wat (S.hd + 1) S j := by
  intro z hz hm
  rw [hc] at hz ⊢
  simp only [List.take_succ_cons, List.take_zero, List.mem_cons, List.not_mem_nil, or_false] at hz
  rcases hz with rfl | rfl
  · exact absurd (List.mem_of_mem_take hm) (t.con hx)
  · refine ⟨x, by simp, hx, ?_⟩
    have h1 := t.top h
    rw [hnt, llev_neg] at h1
    have := (t.lev_rng hx).2
    omega

theorem wat_move (t : Tr n S) (h : S.hd < S.tr.length) {j : Nat} {x nt a : Int} {r1 r2 : Cl} (hc : S.cl j = x :: nt :: (r1 ++ a :: r2)) (hne : x ≠ nt) (hnt : S.tr[S.hd] = -nt)
    (hw : Wat S.hd S j) (hx : ¬ x ∈ S.tr) (ha : ¬ -a ∈ S.tr) : Wat (S.hd + 1) (mvS S j nt a (x :: a :: (r1 ++ nt :: r2))) j := by
  intro z hz hm
  have hz : z ∈ (upd S.cl j (x :: a :: (r1 ++ nt :: r2)) j).take 2 := hz
  have hm : -z ∈ S.tr.take (S.hd + 1) := hm
  exfalso
  rw [upd_same] at hz
  simp only [List.take_succ_cons, List.take_zero, List.mem_cons, List.not_mem_nil, or_false] at hz
  rcases hz with rfl | rfl
  · rcases take_succ_mem h hm with h1 | h1
    · obtain ⟨y, hy, hy2, _⟩ := hw z (by rw [hc]; simp) h1
      rw [hc] at hy
      simp only [List.take_succ_cons, List.take_zero, List.mem_cons, List.not_mem_nil, or_false] at hy
      rcases hy with rfl | rfl
      · exact hx hy2
      · exact t.con hy2 (hnt ▸ List.getElem_mem h)
    · rw [hnt] at h1; exact hne (by omega)
  · exact ha (List.mem_of_mem_take hm)

theorem wat_other (h : S.hd < S.tr.length) {j : Nat} {nt : Int} (hnt : S.tr[S.hd] = -nt) (hw : Wat S.hd S j) (hn : ¬ nt ∈ (S.cl j).take 2) : Wat (S.hd + 1) S j := by
  intro z hz hm
  rcases take_succ_mem h hm with h1 | h1
  · exact hw z hz h1
  · exfalso
    rw [hnt] at h1
    exact hn (by rw [show nt = z by omega]; exact hz)

def nextS (S : St) : St := { S with hd := S.hd + 1 }
theorem Inv.nextS (i : Inv n l d L S) (h : S.hd < S.tr.length) (hw : ∀ j, j < S.nc → Wat (S.hd + 1) S j) : Inv n l d L (nextS S) :=
  ⟨⟨i.t.nd, i.t.rng, i.t.val, i.t.lvl, i.t.lvs, fun x hx => Nat.le_succ_of_le (i.t.lvh x hx), h⟩, ⟨i.c.c2, i.c.cnd, i.c.crg, i.c.wts, i.c.wtc, i.c.wnd⟩, ⟨i.r.rea, i.r.dec⟩, ⟨i.x.1, i.x.2⟩, ⟨i.g.d0, i.g.src, i.g.rup, i.g.lrg, i.g.lnew⟩, i.lc, i.cv, i.lt, hw⟩

/-! ### A variable is tried -/
def decS (S : St) (a : Int) : St := letS { S with lv := S.lv ++ [S.tr.length] } a none
theorem Inv.decS (i : Inv n l d L S) (hh : S.hd = S.tr.length) {a : Int} (h0 : a ≠ 0) (hn : a.natAbs ≤ n) (h1 : ¬ a ∈ S.tr) (h2 : ¬ -a ∈ S.tr) : Inv n l d L (decS S a) := by
  have t1 : Tr n { S with lv := S.lv ++ [S.tr.length] } := by
    refine ⟨i.t.nd, i.t.rng, i.t.val, fun p h => ?_, ?_, ?_, i.t.hdl⟩
    · show llev S S.tr[p] = ((lev (S.lv ++ [S.tr.length]) p : Nat) : Int)
      rw [lev_app h]; exact i.t.lvl p h
    · show (S.lv ++ [S.tr.length]).Pairwise (· < ·)
      rw [List.pairwise_append]
      exact ⟨i.t.lvs, by simp, fun x hx y hy => by rw [List.mem_singleton.1 hy]; exact i.lt x hx⟩
    · intro x hx
      rcases List.mem_append.1 hx with hx | hx
      · exact i.t.lvh x hx
      · rw [List.mem_singleton.1 hx]; show S.tr.length ≤ S.hd; omega
  have r1 : Rea { S with lv := S.lv ++ [S.tr.length] } := by
    refine ⟨i.r.rea, fun p h hj => ?_⟩
    show lev (S.lv ++ [S.tr.length]) p = 0 ∨ p ∈ S.lv ++ [S.tr.length]
    rw [lev_app h]
    rcases i.r.dec p h hj with h3 | h3
    · exact .inl h3
    · exact .inr (List.mem_append_left _ h3)
  have g1 : Log n l { S with lv := S.lv ++ [S.tr.length] } := by
    refine ⟨fun p h hl => i.g.d0 p h ?_, i.g.src, i.g.rup, i.g.lrg, i.g.lnew⟩
    have hl : lev (S.lv ++ [S.tr.length]) p = 0 := hl
    rwa [lev_app h] at hl
  have c1 : Cls n { S with lv := S.lv ++ [S.tr.length] } := ⟨i.c.c2, i.c.cnd, i.c.crg, i.c.wts, i.c.wtc, i.c.wnd⟩
  have x1 : Nxt n { S with lv := S.lv ++ [S.tr.length] } := ⟨i.x.1, i.x.2⟩
  refine ⟨t1.letS h0 hn h1 h2, c1.letS, r1.letS t1 h1 h2 (fun j hj => by cases hj) (fun _ => .inr (by simp)), x1.letS, g1.letS t1 h1 h2 (fun h => by simp at h), Lcv.letS (S := { S with lv := S.lv ++ [S.tr.length] }) i.lc t1 h1 h2, Cov.letS (S := { S with lv := S.lv ++ [S.tr.length] }) i.cv t1 h1 h2, ?_, fun j hj => Wat.letS (S := { S with lv := S.lv ++ [S.tr.length] }) (i.w j hj) t1 i.t.hdl h1 h2⟩
  intro x hx
  have hx : x ∈ S.lv ++ [S.tr.length] := hx
  show x < (S.tr ++ [a]).length
  rw [List.length_append, List.length_singleton]
  rcases List.mem_append.1 hx with hx | hx
  · have := i.lt x hx; omega
  · rw [List.mem_singleton.1 hx]; omega

/-! ### All are told -/
def valsS (n : Nat) (S : St) : List Bool := (List.range n).map fun i => decide (0 < (S.v (i + 1)).value)
theorem hol_vals (t : Tr n S) {a : Int} (h0 : a ≠ 0) (hn : a.natAbs ≤ n) (ha : a ∈ S.tr ∨ -a ∈ S.tr) : hol (valsS n S) a = true ↔ a ∈ S.tr := by
  have hv : ∀ i : Nat, 1 ≤ i → i ≤ n → (valsS n S).getD (i - 1) false = decide ((i : Int) ∈ S.tr) := by
    intro i h1 h2
    unfold valsS
    rw [List.getD_eq_getElem?_getD, List.getElem?_map, List.getElem?_range (by omega), Option.map_some, Option.getD_some, show i - 1 + 1 = i by omega, t.val i h1 h2]
    unfold tval
    by_cases h3 : (i : Int) ∈ S.tr
    · simp [h3]
    · rw [if_neg h3]; split <;> simp [h3]
  unfold hol
  by_cases hneg : a < 0
  · rw [if_pos hneg, show (-a - 1).toNat = a.natAbs - 1 by omega, hv _ (by omega) hn, show ((a.natAbs : Nat) : Int) = -a by omega]
    rcases ha with ha | ha
    · have := t.con ha; simp [ha, this]
    · have := t.con' ha; simp [ha, this]
  · rw [if_neg hneg, show (a - 1).toNat = a.natAbs - 1 by omega, hv _ (by omega) hn, show ((a.natAbs : Nat) : Int) = a by omega]
    simp

theorem Inv.some (i : Inv n l l L S) (hh : S.hd = S.tr.length) (hx : S.nx = []) (hl : ∀ c ∈ l, ∀ a ∈ c, a ≠ 0 ∧ a.natAbs ≤ n) : sat l (valsS n S) = true := by
  have hall : ∀ a : Int, a ≠ 0 → a.natAbs ≤ n → a ∈ S.tr ∨ -a ∈ S.tr := by
    intro a h0 hn
    refine Classical.byContradiction fun hno => ?_
    rw [not_or] at hno
    have hz : (S.v a.natAbs).value = 0 := by
      rw [i.t.val _ (by omega) hn]
      rcases show ((a.natAbs : Nat) : Int) = a ∨ ((a.natAbs : Nat) : Int) = -a by omega with e | e
      · exact tval_zero (by rw [e]; exact hno.1) (by rw [e]; exact hno.2)
      · exact tval_zero (by rw [e]; exact hno.2) (by rw [e, Int.neg_neg]; exact hno.1)
    have := i.x.all a.natAbs (by omega) hn hz
    rw [hx] at this
    cases this
  unfold sat
  rw [List.all_eq_true]
  intro c hc
  rw [List.any_eq_true]
  rcases i.cv c hc with ⟨a, h1, h2⟩ | ⟨a, h1, h2, _⟩ | ⟨j, hj, he⟩
  · obtain ⟨h3, h4⟩ := hl c hc a h1
    rcases hall a h3 h4 with h5 | h5
    · exact ⟨a, h1, (hol_vals i.t h3 h4 (.inl h5)).2 h5⟩
    · exact ⟨-a, h2, (hol_vals i.t (by omega) (by rw [Int.natAbs_neg]; exact h4) (.inl h5)).2 h5⟩
  · obtain ⟨h3, h4⟩ := hl c hc a h1
    exact ⟨a, h1, (hol_vals i.t h3 h4 (.inl h2)).2 h2⟩
  · have h2 := i.c.c2 j hj
    have hw := i.w j hj
    have he2 := i.c.crg j hj
    rcases hcl : S.cl j with _ | ⟨x, _ | ⟨y, r⟩⟩
    · rw [hcl] at h2; simp at h2
    · rw [hcl] at h2; simp at h2
    · obtain ⟨h3, h4⟩ := he2 x (by rw [hcl]; simp)
      rcases hall x h3 h4 with h5 | h5
      · exact ⟨x, (he x).1 (by rw [hcl]; simp), (hol_vals i.t h3 h4 (.inl h5)).2 h5⟩
      · obtain ⟨z, hz, hz2, _⟩ := hw x (by rw [hcl]; simp) (by rw [hh, List.take_length]; exact h5)
        have hz3 := List.mem_of_mem_take hz
        obtain ⟨h6, h7⟩ := he2 z hz3
        exact ⟨z, (he z).1 hz3, (hol_vals i.t h6 h7 (.inl hz2)).2 hz2⟩

/-- A clause that fails while nothing was tried. -/
theorem Inv.none (i : Inv n l d L S) (hl : S.lv = []) {j : Nat} (hj : j < S.nc) (hf : ∀ a ∈ S.cl j, -a ∈ S.tr) : Bad (l ++ S.ln) [] := by
  obtain ⟨c, hc, he⟩ := i.g.src j hj
  refine .inl ⟨c, hc, fun b hb => ?_⟩
  obtain ⟨p, hp, e⟩ := List.getElem_of_mem (hf b ((he b).2 hb))
  rw [← e]
  exact i.g.d0 p hp (by rw [hl]; rfl)
end

end Go.Proofs.Ytajcfppemkdomaa

set_option linter.unusedVariables false
set_option linter.unusedSimpArgs false
set_option linter.unnecessarySimpa false
namespace Go.Proofs.Ytajcfppemkdomaa
open Go Go.Proofs Go.Abs

/-! ### What a conflict tells -/
structure LI (S : St) (seen : List Nat) (rest : Cl) : Prop where
  s1 : ∀ v ∈ seen, ∃ a ∈ S.tr, a.natAbs = v ∧ 0 < llev S a
  s2 : ∀ a ∈ rest, -a ∈ S.tr ∧ 0 < llev S a ∧ llev S a < S.lv.length ∧ a.natAbs ∈ seen
  s3 : ∀ a ∈ S.tr, a.natAbs ∈ seen → llev S a < S.lv.length → -a ∈ rest
  rn : (rest.map Int.natAbs).Nodup

/-- How many of what was seen are of the last level, ahead of a place. -/
def openD (S : St) (seen : List Nat) (q : Nat) : Nat := (S.tr.take q).countP fun a => decide (a.natAbs ∈ seen) && decide (llev S a = S.lv.length)
def Acc (S : St) (seen : List Nat) (b : Int) : Prop := llev S b = 0 ∨ b.natAbs ∈ seen
/-- What was seen at a place, and not ahead of it, was looked at. -/
def DoneAt (S : St) (seen : List Nat) (i : Nat) : Prop := ∀ (h : i < S.tr.length), (S.tr[i]).natAbs ∈ seen → llev S S.tr[i] = S.lv.length →
  ∃ k, k < S.nc ∧ S.tr[i] ∈ S.cl k ∧ ∀ b ∈ S.cl k, b ≠ S.tr[i] → -b ∈ S.tr.take i ∧ Acc S seen b

section
variable {n : Nat} {l d L : List Cl} {S : St}

theorem Acc.mono {seen seen' : List Nat} {b : Int} (h : Acc S seen b) (hs : ∀ v ∈ seen, v ∈ seen') : Acc S seen' b := h.imp id (hs _)

theorem countP_one {α : Type} [BEq α] [LawfulBEq α] : ∀ {l : List α} {p q : α → Bool} {x : α}, l.Nodup → x ∈ l → p x = false → q x = true → (∀ y ∈ l, y ≠ x → q y = p y) → l.countP q = l.countP p + 1
  | [], _, _, _, _, h, _, _, _ => by simp at h
  | z :: l, p, q, x, hn, hx, hp, hq, hy => by
    rw [List.nodup_cons] at hn
    rw [List.countP_cons, List.countP_cons]
    rcases List.mem_cons.1 hx with rfl | hx
    · have : l.countP q = l.countP p := List.countP_congr fun y hyl => by
        rw [hy y (List.mem_cons_of_mem _ hyl) (fun e => hn.1 (e ▸ hyl))]
      simp [hp, hq, this]
    · have h1 := countP_one hn.2 hx hp hq fun y hyl hne => hy y (List.mem_cons_of_mem _ hyl) hne
      have h2 : z ≠ x := fun e => hn.1 (e ▸ hx)
      rw [hy z List.mem_cons_self h2, h1]
      omega

theorem Tr.nodup (t : Tr n S) : S.tr.Nodup := by
  have := t.nd
  rw [List.Nodup, List.pairwise_map] at this
  exact this.imp fun h e => h (by rw [e])

theorem LI.start : LI S [] [] := ⟨by simp, by simp, by simp, by simp⟩

/-- A literal is seen. -/
theorem LI.mark {seen : List Nat} {rest : Cl} (k : LI S seen rest) (t : Tr n S) {a : Int} {q : Nat} (ha : -a ∈ S.tr.take q) (h0 : llev S a ≠ 0) (hs : ¬ a.natAbs ∈ seen) :
    (llev S a = S.lv.length → LI S (seen ++ [a.natAbs]) rest ∧ openD S (seen ++ [a.natAbs]) q = openD S seen q + 1) ∧
    (llev S a ≠ S.lv.length → LI S (seen ++ [a.natAbs]) (rest ++ [a]) ∧ openD S (seen ++ [a.natAbs]) q = openD S seen q) := by
  have hat := List.mem_of_mem_take ha
  have hlr := t.lev_rng hat
  rw [llev_neg] at hlr
  have hu : ∀ b ∈ S.tr, b.natAbs = a.natAbs → b = -a := fun b hb he => nodup_abs t.nd b hb (-a) hat (by rw [he, Int.natAbs_neg])
  have s1 : ∀ v ∈ seen ++ [a.natAbs], ∃ a ∈ S.tr, a.natAbs = v ∧ 0 < llev S a := by
    intro v hv
    rcases List.mem_append.1 hv with hv | hv
    · exact k.s1 v hv
    · rw [List.mem_singleton.1 hv]; exact ⟨-a, hat, Int.natAbs_neg a, by rw [llev_neg]; omega⟩
  refine ⟨fun hD => ⟨⟨s1, fun b hb => ?_, fun b hb hb2 hb3 => ?_, k.rn⟩, ?_⟩, fun hD => ⟨⟨s1, fun b hb => ?_, fun b hb hb2 hb3 => ?_, ?_⟩, ?_⟩⟩
  · obtain ⟨h1, h2, h3, h4⟩ := k.s2 b hb
    exact ⟨h1, h2, h3, List.mem_append_left _ h4⟩
  · rcases List.mem_append.1 hb2 with h1 | h1
    · exact k.s3 b hb h1 hb3
    · have := hu b hb (List.mem_singleton.1 h1)
      rw [this, llev_neg] at hb3
      omega
  · unfold openD
    refine countP_one (x := -a) (t.nodup.sublist (List.take_sublist _ _)) ha (by simp [hs]) (by simp [llev_neg, hD]) fun y hy hne => ?_
    have : y.natAbs ≠ a.natAbs := fun e => hne (hu y (List.mem_of_mem_take hy) e)
    simp [this]
  · rcases List.mem_append.1 hb with hb | hb
    · obtain ⟨h1, h2, h3, h4⟩ := k.s2 b hb
      exact ⟨h1, h2, h3, List.mem_append_left _ h4⟩
    · rw [List.mem_singleton.1 hb]
      exact ⟨hat, by omega, by omega, by simp⟩
  · rcases List.mem_append.1 hb2 with h1 | h1
    · exact List.mem_append_left _ (k.s3 b hb h1 hb3)
    · have := hu b hb (List.mem_singleton.1 h1)
      rw [this, Int.neg_neg]; simp
  · rw [List.map_append, List.map_singleton, List.nodup_append]
    refine ⟨k.rn, by simp, fun x hx y hy => ?_⟩
    obtain ⟨b, hb, rfl⟩ := List.mem_map.1 hx
    rw [List.mem_singleton.1 hy]
    exact fun e => hs (e ▸ (k.s2 b hb).2.2.2)
  · unfold openD
    refine List.countP_congr fun y hy => ?_
    by_cases hya : y.natAbs = a.natAbs
    · have := hu y (List.mem_of_mem_take hy) hya
      rw [this, llev_neg]
      simp [hD]
    · simp [hya]

/-- Nothing was seen between two places. -/
def Gap (S : St) (seen : List Nat) (q' q : Nat) : Prop := ∀ i (h : i < S.tr.length), q' ≤ i → i < q → ¬ (S.tr[i]).natAbs ∈ seen

theorem openD_gap {seen : List Nat} {q' q : Nat} (h1 : q' ≤ q) (hg : Gap S seen q' q) : openD S seen q = openD S seen q' := by
  unfold openD
  have e : S.tr.take q = S.tr.take q' ++ (S.tr.drop q').take (q - q') := by
    rw [← List.take_append_drop q' (S.tr.take q), List.take_take, Nat.min_eq_left h1, List.drop_take]
  rw [e, List.countP_append]
  have : ((S.tr.drop q').take (q - q')).countP (fun a => decide (a.natAbs ∈ seen) && decide (llev S a = S.lv.length)) = 0 := by
    rw [List.countP_eq_zero]
    intro a ha
    obtain ⟨i, hi, rfl⟩ := List.getElem_of_mem ha
    rw [List.length_take, List.length_drop] at hi
    have := hg (q' + i) (by omega) (by omega) (by omega)
    simp only [List.getElem_take, List.getElem_drop, Bool.and_eq_true, decide_eq_true_eq]
    exact fun h => this h.1
  omega

theorem openD_succ {seen : List Nat} {q : Nat} (h : q < S.tr.length) : openD S seen (q + 1) = openD S seen q + (if (S.tr[q]).natAbs ∈ seen ∧ llev S S.tr[q] = S.lv.length then 1 else 0) := by
  unfold openD
  rw [List.take_add_one, List.getElem?_eq_getElem h, Option.toList_some, List.countP_append, List.countP_singleton]
  by_cases h1 : (S.tr[q]).natAbs ∈ seen <;> by_cases h2 : llev S S.tr[q] = S.lv.length <;> simp [h1, h2]

/-- While something is open the place is behind it. -/
theorem open_pos {seen : List Nat} {q' q : Nat} (h1 : q' ≤ q) (hg : Gap S seen q' q) (ho : openD S seen q ≠ 0) : 0 < q' := by
  rw [openD_gap h1 hg] at ho
  cases q' with
  | zero => simp [openD] at ho
  | succ q' => omega

theorem open_found {seen : List Nat} {q' q : Nat} (t : Tr n S) (h1 : q' + 1 ≤ q) (h2 : q' < S.tr.length) (hg : Gap S seen (q' + 1) q) (ho : openD S seen q ≠ 0) (hs : (S.tr[q']).natAbs ∈ seen) :
    llev S S.tr[q'] = S.lv.length ∧ openD S seen q = openD S seen q' + 1 := by
  rw [openD_gap h1 hg] at ho ⊢
  have hD : llev S S.tr[q'] = S.lv.length := by
    have h3 : 0 < openD S seen (q' + 1) := Nat.pos_of_ne_zero ho
    unfold openD at h3
    rw [List.countP_pos_iff] at h3
    obtain ⟨a, ha, ha2⟩ := h3
    obtain ⟨i, hi, hi2, rfl⟩ := mem_take_at ha
    simp only [Bool.and_eq_true, decide_eq_true_eq] at ha2
    have h4 := ha2.2
    rw [t.lvl i hi] at h4
    rw [t.lvl q' h2]
    have h5 := lev_mono S.lv (show i ≤ q' by omega)
    have h6 := lev_le S.lv q'
    omega
  exact ⟨hD, by rw [openD_succ h2, if_pos ⟨hs, hD⟩]⟩

/-- What is the last level's first one closes all. -/
theorem open_first {seen : List Nat} {q' : Nat} (t : Tr n S) (h2 : q' < S.tr.length) (hm : q' ∈ S.lv) : openD S seen q' = 0 := by
  unfold openD
  rw [List.countP_eq_zero]
  intro a ha
  obtain ⟨i, hi, hi2, rfl⟩ := mem_take_at ha
  simp only [Bool.and_eq_true, decide_eq_true_eq]
  rintro ⟨_, h⟩
  rw [t.lvl i hi] at h
  have h3 : lev S.lv i < S.lv.length := by
    have h4 := lev_le S.lv i
    refine Nat.lt_of_le_of_ne h4 fun e => ?_
    unfold lev at e
    rw [List.countP_eq_length] at e
    have := e q' hm
    simp at this
    omega
  omega

theorem reason_of {seen : List Nat} {q' : Nat} (r : Rea S) (t : Tr n S) (h2 : q' < S.tr.length) (hl : 0 < S.lv.length) (hD : llev S S.tr[q'] = S.lv.length) (ho : openD S seen q' ≠ 0) :
    ∃ k, (S.v (S.tr[q']).natAbs).reason = some k ∧ k < S.nc ∧ S.tr[q'] ∈ S.cl k ∧ ∀ b ∈ S.cl k, b ≠ S.tr[q'] → -b ∈ S.tr.take q' := by
  cases hr : (S.v (S.tr[q']).natAbs).reason with
  | none =>
    rcases r.dec q' h2 hr with h | h
    · rw [t.lvl q' h2] at hD; omega
    · exact absurd (open_first t h2 h) ho
  | some k => exact ⟨k, rfl, r.rea q' h2 k hr⟩

theorem Der.mono {l l' : List Cl} {g g' : Cl} (hl : ∀ c ∈ l, c ∈ l') (hg : ∀ a ∈ g, a ∈ g') {a : Int} (h : Der l g a) : Der l' g' a := by
  induction h with
  | start a h => exact .start a (hg a h)
  | unit c a hc ha _ ih => exact .unit c a (hl c hc) ha ih
theorem Bad.mono {l l' : List Cl} {g g' : Cl} (hl : ∀ c ∈ l, c ∈ l') (hg : ∀ a ∈ g, a ∈ g') (h : Bad l g) : Bad l' g' := by
  rcases h with ⟨c, hc, h⟩ | ⟨a, h1, h2⟩
  · exact .inl ⟨c, hl c hc, fun b hb => (h b hb).mono hl hg⟩
  · exact .inr ⟨a, h1.mono hl hg, h2.mono hl hg⟩

/-- What is learned leads to a conflict. -/
theorem learn_bad (i : Inv n l d L S) {seen : List Nat} {rest : Cl} (k : LI S seen rest) {q : Nat} (hq : q < S.tr.length) (hs : (S.tr[q]).natAbs ∈ seen) (hD : llev S S.tr[q] = S.lv.length)
    (ho : openD S seen q = 0) (hd : ∀ j, q < j → DoneAt S seen j) {j : Nat} (hj : j < S.nc) (hf : ∀ b ∈ S.cl j, -b ∈ S.tr ∧ Acc S seen b) : Bad (l ++ S.ln) (negs (-S.tr[q] :: rest)) := by
  have h0 : ∀ b : Int, b ∈ S.tr → llev S b = 0 → Der (l ++ S.ln) (negs (-S.tr[q] :: rest)) b := by
    intro b hb hl
    obtain ⟨p, hp, rfl⟩ := List.getElem_of_mem hb
    rw [i.t.lvl p hp] at hl
    exact (i.g.d0 p hp (by omega)).mono (fun _ h => h) (by simp)
  have key : ∀ m p, p < m → ∀ (hp : p < S.tr.length), (S.tr[p]).natAbs ∈ seen → Der (l ++ S.ln) (negs (-S.tr[q] :: rest)) S.tr[p] := by
    intro m
    induction m with
    | zero => intro p h; omega
    | succ m ih =>
      intro p hpm hp hps
      by_cases hlt : llev S S.tr[p] < S.lv.length
      · refine .start _ ?_
        have := k.s3 _ (List.getElem_mem hp) hps hlt
        unfold negs
        rw [List.mem_map]
        exact ⟨-S.tr[p], List.mem_cons_of_mem _ this, Int.neg_neg _⟩
      · have hle : llev S S.tr[p] = S.lv.length := by have := (i.t.lev_rng (List.getElem_mem hp)).2; omega
        rcases Nat.lt_trichotomy p q with h | h | h
        · exfalso
          unfold openD at ho
          rw [List.countP_eq_zero] at ho
          have := ho S.tr[p] (at_mem_take hp h)
          simp [hps, hle] at this
        · subst h
          refine .start _ ?_
          unfold negs
          rw [List.mem_map]
          exact ⟨-S.tr[p], List.mem_cons_self, Int.neg_neg _⟩
        · obtain ⟨c, hc, hc2, hc3⟩ := hd p h hp hps hle
          obtain ⟨c', hc', he⟩ := i.g.src c hc
          refine .unit c' _ hc' ((he _).1 hc2) fun b hb hne => ?_
          obtain ⟨h1, h2⟩ := hc3 b ((he b).2 hb) hne
          rcases h2 with h2 | h2
          · exact h0 _ (List.mem_of_mem_take h1) (by rw [llev_neg]; exact h2)
          · obtain ⟨x, hx, hx2, hx3⟩ := mem_take_at h1
            rw [← hx3]
            exact ih x (by omega) hx (by rw [hx3, Int.natAbs_neg]; exact h2)
  obtain ⟨c', hc', he⟩ := i.g.src j hj
  refine .inl ⟨c', hc', fun b hb => ?_⟩
  obtain ⟨h1, h2⟩ := hf b ((he b).2 hb)
  rcases h2 with h2 | h2
  · exact h0 _ h1 (by rw [llev_neg]; exact h2)
  · obtain ⟨p, hp, hp2⟩ := List.getElem_of_mem h1
    rw [← hp2]
    exact key (p + 1) p (by omega) hp (by rw [hp2, Int.natAbs_neg]; exact h2)

/-- What is learned, and the level at which it holds. -/
structure Lrnt (n : Nat) (l : List Cl) (S : St) (out : Cl) (k : Nat) : Prop where
  bad : Bad (l ++ S.ln) (negs out)
  nd : (out.map Int.natAbs).Nodup
  rng : ∀ a ∈ out, a ≠ 0 ∧ a.natAbs ≤ n
  fst : ∃ p rest, out = -p :: rest ∧ p ∈ S.tr ∧ llev S p = S.lv.length ∧ (∀ a ∈ rest, -a ∈ S.tr ∧ llev S a ≤ k) ∧ ((rest = [] ∧ k = 0) ∨ ∃ a r, rest = a :: r ∧ llev S a = k)
  klt : k < S.lv.length

/-- It is a new one. -/
theorem Lrnt.new {out : Cl} {k : Nat} (h : Lrnt n l S out k) (i : Inv n l d S.ln S) : ∀ c ∈ S.ln, ¬ ∀ a, a ∈ c ↔ a ∈ out := by
  obtain ⟨p, rest, rfl, h1, h2, h3, h4⟩ := h.fst
  have hk := h.klt
  have hp := i.t.rng p h1
  intro c hc he
  rcases i.lc c hc with ⟨a, rfl, ha, hl⟩ | ⟨j, hj, hj2⟩
  · have : -p ∈ [a] := (he _).2 (by simp)
    have := List.mem_singleton.1 this
    subst this
    exact i.t.con h1 ha
  · have hc2 := i.c.c2 j hj
    have hcn := i.c.cnd j hj
    have hw := i.w j hj
    have hm : ∀ a, a ∈ S.cl j ↔ a ∈ -p :: rest := fun a => (hj2 a).trans (he a)
    have hno : ∀ z ∈ S.cl j, ¬ z ∈ S.tr := by
      intro z hz hzt
      rcases List.mem_cons.1 ((hm z).1 hz) with rfl | hz2
      · exact i.t.con h1 hzt
      · exact i.t.con hzt (h3 z hz2).1
    have hlow : ∀ z ∈ (S.cl j).take 2, z ≠ -p → False := by
      intro z hz hne
      have hz2 := (List.mem_cons.1 ((hm z).1 (List.mem_of_mem_take hz))).resolve_left hne
      obtain ⟨h5, h6⟩ := h3 z hz2
      have h7 : -z ∈ S.tr.take S.hd := by
        have h8 := (i.t.low h5 hk).2 (by rw [llev_neg]; exact h6)
        exact List.take_subset_take_left S.tr (i.t.lvh _ (List.getElem_mem hk)) h8
      obtain ⟨y, hy, hy2, _⟩ := hw z hz h7
      exact hno y (List.mem_of_mem_take hy) hy2
    rcases hcl : S.cl j with _ | ⟨x, _ | ⟨y, r⟩⟩
    · rw [hcl] at hc2; simp at hc2
    · rw [hcl] at hc2; simp at hc2
    · rw [hcl] at hlow hcn
      simp only [List.map_cons, List.nodup_cons, List.mem_cons, not_or] at hcn
      by_cases hx : x = -p
      · exact hlow y (by simp) (fun e => hcn.1.1 (by rw [hx, e]))
      · exact hlow x (by simp) hx

/-! ### A clause is added to those that are watched -/
def watchS (S : St) (c : Cl) : St := { S with cl := upd S.cl S.nc c, nc := S.nc + 1, wt := fun b => if b ∈ c.take 2 then S.wt b ++ [S.nc] else S.wt b }

theorem watchS_cl {c : Cl} {j : Nat} (h : j < S.nc) : (watchS S c).cl j = S.cl j := upd_other (by omega)
theorem watchS_new {c : Cl} : (watchS S c).cl S.nc = c := upd_same _ _ _

theorem watch_parts (i : Inv n l d L S) {c : Cl} (h2 : 2 ≤ c.length) (hn : (c.map Int.natAbs).Nodup) (hr : ∀ a ∈ c, a ≠ 0 ∧ a.natAbs ≤ n) (hs : ∃ c' ∈ l ++ S.ln, ∀ a, a ∈ c ↔ a ∈ c') :
    Tr n (watchS S c) ∧ Cls n (watchS S c) ∧ Rea (watchS S c) ∧ Nxt n (watchS S c) ∧ Log n l (watchS S c) ∧ Lcv L (watchS S c) ∧ Cov d (watchS S c) ∧ Lvt (watchS S c) ∧ ∀ j, j < S.nc → Wat S.hd (watchS S c) j := by
  have hnot : ∀ a, ¬ S.nc ∈ S.wt a := fun a h => by have := (i.c.wts a _ h).1; omega
  have old : ∀ {j}, j < S.nc + 1 → j ≠ S.nc → j < S.nc := fun h h2 => by omega
  refine ⟨⟨i.t.nd, i.t.rng, i.t.val, i.t.lvl, i.t.lvs, i.t.lvh, i.t.hdl⟩, ⟨?_, ?_, ?_, ?_, ?_, ?_⟩, ⟨?_, i.r.dec⟩, ⟨i.x.1, i.x.2⟩, ⟨i.g.d0, ?_, i.g.rup, i.g.lrg, i.g.lnew⟩, ?_, ?_, i.lt, ?_⟩
  · intro j hj
    by_cases he : j = S.nc
    · subst he; rw [watchS_new]; exact h2
    · rw [watchS_cl (old hj he)]; exact i.c.c2 j (old hj he)
  · intro j hj
    by_cases he : j = S.nc
    · subst he; rw [watchS_new]; exact hn
    · rw [watchS_cl (old hj he)]; exact i.c.cnd j (old hj he)
  · intro j hj
    by_cases he : j = S.nc
    · subst he; rw [watchS_new]; exact hr
    · rw [watchS_cl (old hj he)]; exact i.c.crg j (old hj he)
  · intro a j hj
    have hj : j ∈ (if a ∈ c.take 2 then S.wt a ++ [S.nc] else S.wt a) := hj
    show j < S.nc + 1 ∧ _
    have k : j ∈ S.wt a → j < S.nc + 1 ∧ a ∈ ((watchS S c).cl j).take 2 := fun h => by
      obtain ⟨h3, h4⟩ := i.c.wts a j h
      exact ⟨by omega, by rw [watchS_cl h3]; exact h4⟩
    split at hj
    · rename_i h
      rcases List.mem_append.1 hj with h3 | h3
      · exact k h3
      · rw [List.mem_singleton.1 h3, watchS_new]; exact ⟨by omega, h⟩
    · exact k hj
  · intro j hj a ha
    show j ∈ (if a ∈ c.take 2 then S.wt a ++ [S.nc] else S.wt a)
    by_cases he : j = S.nc
    · subst he
      rw [watchS_new] at ha
      rw [if_pos ha]; simp
    · rw [watchS_cl (old hj he)] at ha
      have := i.c.wtc j (old hj he) a ha
      split
      · exact List.mem_append_left _ this
      · exact this
  · intro a
    show (if a ∈ c.take 2 then S.wt a ++ [S.nc] else S.wt a).Nodup
    split
    · rw [List.nodup_append]
      refine ⟨i.c.wnd a, by simp, fun y hy z hz => ?_⟩
      rw [List.mem_singleton.1 hz]
      exact fun e => hnot a (e ▸ hy)
    · exact i.c.wnd a
  · intro p h j hj
    obtain ⟨h3, h4, h5⟩ := i.r.rea p h j hj
    show j < S.nc + 1 ∧ _
    rw [watchS_cl h3]
    exact ⟨by omega, h4, h5⟩
  · intro j hj
    by_cases he : j = S.nc
    · subst he; rw [watchS_new]; exact hs
    · rw [watchS_cl (old hj he)]; exact i.g.src j (old hj he)
  · intro x hx
    rcases i.lc x hx with h | ⟨j, h3, h4⟩
    · exact .inl h
    · exact .inr ⟨j, show j < S.nc + 1 by omega, by rw [watchS_cl h3]; exact h4⟩
  · intro x hx
    rcases i.cv x hx with h | h | ⟨j, h3, h4⟩
    · exact .inl h
    · exact .inr (.inl h)
    · exact .inr (.inr ⟨j, show j < S.nc + 1 by omega, by rw [watchS_cl h3]; exact h4⟩)
  · intro j hj x hx hm
    rw [watchS_cl hj] at hx ⊢
    exact i.w j hj x hx hm

theorem Inv.watch (i : Inv n l d L S) {c : Cl} (h2 : 2 ≤ c.length) (hn : (c.map Int.natAbs).Nodup) (hr : ∀ a ∈ c, a ≠ 0 ∧ a.natAbs ≤ n) (hs : ∃ c' ∈ l ++ S.ln, ∀ a, a ∈ c ↔ a ∈ c')
    (hw : Wat S.hd (watchS S c) S.nc) : Inv n l d L (watchS S c) := by
  obtain ⟨p1, p2, p3, p4, p5, p6, p7, p8, p9⟩ := watch_parts i h2 hn hr hs
  refine ⟨p1, p2, p3, p4, p5, p6, p7, p8, fun j hj => ?_⟩
  have hj : j < S.nc + 1 := hj
  by_cases he : j = S.nc
  · subst he; exact hw
  · exact p9 j (by omega)


/-! ### What is done with a conflict -/
def lnS (S : St) (out : Cl) : St := { S with ln := S.ln ++ [out] }
theorem inv_lnS (i : Inv n l d S.ln S) {out : Cl} {k : Nat} (h : Lrnt n l S out k) : Inv n l d S.ln (lnS S out) := by
  have hm : ∀ c ∈ l ++ S.ln, c ∈ l ++ (S.ln ++ [out]) := by
    intro c hc
    rw [← List.append_assoc]; exact List.mem_append_left _ hc
  refine ⟨⟨i.t.nd, i.t.rng, i.t.val, i.t.lvl, i.t.lvs, i.t.lvh, i.t.hdl⟩, ⟨i.c.c2, i.c.cnd, i.c.crg, i.c.wts, i.c.wtc, i.c.wnd⟩, ⟨i.r.rea, i.r.dec⟩, ⟨i.x.1, i.x.2⟩, ⟨?_, ?_, ?_, ?_, ?_⟩, i.lc, i.cv, i.lt, i.w⟩
  · intro p hp hl
    exact (i.g.d0 p hp hl).mono hm (by simp)
  · intro j hj
    obtain ⟨c, h1, h2⟩ := i.g.src j hj
    exact ⟨c, hm c h1, h2⟩
  · intro m hmm
    have hmm : m < (S.ln ++ [out]).length := hmm
    show Bad (l ++ (S.ln ++ [out]).take m) (negs (S.ln ++ [out])[m])
    by_cases he : m < S.ln.length
    · rw [List.take_append_of_le_length (by omega), List.getElem_append_left he]
      exact i.g.rup m he
    · have : m = S.ln.length := by rw [List.length_append, List.length_singleton] at hmm; omega
      subst this
      rw [List.take_left, List.getElem_concat_length rfl]
      exact h.bad
  · intro c hc
    rcases List.mem_append.1 (show c ∈ S.ln ++ [out] from hc) with hc | hc
    · exact i.g.lrg c hc
    · rw [List.mem_singleton.1 hc]
      obtain ⟨p, rest, h1, _⟩ := h.fst
      exact ⟨by rw [h1]; simp, h.nd, h.rng⟩
  · show (S.ln ++ [out]).Pairwise fun c d => ¬ ∀ a, a ∈ c ↔ a ∈ d
    rw [List.pairwise_append]
    refine ⟨i.g.lnew, by simp, fun c hc x hx => ?_⟩
    rw [List.mem_singleton.1 hx]
    exact h.new i c hc
theorem inv_backS (i : Inv n l d L S) {k : Nat} (hk : k < S.lv.length) {nx : List (Int × Int)} (hnx : ∀ x ∈ S.nx, x ∈ nx) (hun : ∀ a ∈ S.tr.drop (S.lv.getD k 0), ((a.natAbs : Int), (S.v a.natAbs).score) ∈ nx)
    (hr : ∀ x ∈ nx, x ∈ S.nx ∨ ∃ a ∈ S.tr.drop (S.lv.getD k 0), x.1 = a.natAbs) : Inv n l d L (backS S k nx) :=
  ⟨i.t.backS hk i.lt, i.c.backS, i.r.backS i.t hk, i.x.backS i.t hnx hun hr, i.g.backS i.t hk, i.lc.backS i.t hk, i.cv.backS i.t hk, i.lt.backS i.t hk, fun j hj => (i.w j hj).backS i.t hk (by rw [getD_of hk]; exact i.t.lvh _ (List.getElem_mem hk))⟩

theorem inv_more (i : Inv n l d L S) {c : Cl} (h : (∃ a, c = [a] ∧ a ∈ S.tr ∧ llev S a = 0) ∨ ∃ j, j < S.nc ∧ ∀ a, a ∈ S.cl j ↔ a ∈ c) : Inv n l d (L ++ [c]) S :=
  ⟨i.t, i.c, i.r, i.x, i.g, fun x hx => by
    rcases List.mem_append.1 hx with hx | hx
    · exact i.lc x hx
    · rw [List.mem_singleton.1 hx]; exact h, i.cv, i.lt, i.w⟩

/-- What was learned is let hold. -/
theorem inv_learn (i : Inv n l d S.ln S) {out : Cl} {k : Nat} (h : Lrnt n l S out k) {nx : List (Int × Int)} (hnx : ∀ x ∈ S.nx, x ∈ nx) (hun : ∀ a ∈ S.tr.drop (S.lv.getD k 0), ((a.natAbs : Int), (S.v a.natAbs).score) ∈ nx)
    (hr : ∀ x ∈ nx, x ∈ S.nx ∨ ∃ a ∈ S.tr.drop (S.lv.getD k 0), x.1 = a.natAbs) :
    (∀ a, out = [a] → Inv n l d (S.ln ++ [out]) (letS (backS (lnS S out) k nx) a none)) ∧
    (∀ a b r, out = a :: b :: r → Inv n l d (S.ln ++ [out]) (letS (watchS (backS (lnS S out) k nx) out) a (some S.nc))) := by
  have i1 := inv_lnS i h
  have i2 : Inv n l d S.ln (backS (lnS S out) k nx) := inv_backS i1 h.klt hnx hun hr
  have hk := h.klt
  have hbad := h.bad
  have hnd := h.nd
  have hrg := h.rng
  obtain ⟨p, rest, he, h1, h2, h3, h4⟩ := h.fst
  have hp := i.t.rng p h1
  have hpn : ¬ p ∈ S.tr.take (S.lv.getD k 0) := by
    rw [getD_of hk]
    intro hm
    have := (i.t.low h1 hk).1 hm
    omega
  have f1 : ¬ -p ∈ S.tr.take (S.lv.getD k 0) := fun hm => i.t.con h1 (List.mem_of_mem_take hm)
  have f2 : ¬ - -p ∈ S.tr.take (S.lv.getD k 0) := by rw [Int.neg_neg]; exact hpn
  have hout : out ∈ l ++ (S.ln ++ [out]) := by simp
  have hfalse : ∀ a ∈ rest, -a ∈ S.tr.take (S.lv.getD k 0) := by
    intro a ha
    obtain ⟨h5, h6⟩ := h3 a ha
    rw [getD_of hk]
    exact (i.t.low h5 hk).2 (by rw [llev_neg]; exact h6)
  refine ⟨?_, ?_⟩
  · intro a ha
    have hrest : rest = [] := by rw [he] at ha; exact (List.cons.inj ha).2
    have hap : a = -p := by rw [he] at ha; exact (List.cons.inj ha).1.symm
    have hk0 : k = 0 := by
      rcases h4 with h4 | ⟨x, r, h4, _⟩
      · exact h4.2
      · rw [hrest] at h4; cases h4
    subst hap
    have hlv : (backS (lnS S out) k nx).lv = [] := by
      show S.lv.take k = []
      rw [hk0]; rfl
    have hder : Der (l ++ (S.ln ++ [out])) [] (-p) := by
      refine .unit out (-p) hout (by rw [ha]; simp) fun b hb hne => ?_
      rw [ha] at hb
      exact absurd (List.mem_singleton.1 hb) hne
    have i3 := i2.letS (a := -p) (r := Option.none) (by omega) (by rw [Int.natAbs_neg]; exact hp.2) f1 f2 (fun j hj => by cases hj) (fun _ => hlv) (fun _ => hder)
    refine inv_more i3 (.inl ⟨-p, ha, ?_, ?_⟩)
    · show -p ∈ (backS (lnS S out) k nx).tr ++ [-p]
      simp
    · rw [letS_lev, hlv]; rfl
  · intro a b r ha
    have hap : a = -p := by rw [he] at ha; exact (List.cons.inj ha).1.symm
    have hrest : rest = b :: r := by rw [he] at ha; exact (List.cons.inj ha).2
    subst hap
    have hb : llev S b = k := by
      rcases h4 with h4 | ⟨x, r', h4, h5⟩
      · rw [hrest] at h4; cases h4.1
      · rw [hrest] at h4; cases h4; exact h5
    have tt := i2.t
    have hw : Wat (backS (lnS S out) k nx).hd (letS (watchS (backS (lnS S out) k nx) out) (-p) (some S.nc)) S.nc := by
      intro x hx hm
      have hx : x ∈ (upd S.cl S.nc out S.nc).take 2 := hx
      have hm : -x ∈ (S.tr.take (S.lv.getD k 0) ++ [-p]).take (S.lv.getD k 0) := hm
      rw [upd_same, ha] at hx
      simp only [List.take_succ_cons, List.take_zero, List.mem_cons, List.not_mem_nil, or_false] at hx
      rw [List.take_append_of_le_length (by rw [List.length_take]; have := i.lt _ (List.getElem_mem hk); rw [getD_of hk]; omega), List.take_take, Nat.min_self] at hm
      rcases hx with rfl | rfl
      · exact absurd hm f2
      · refine ⟨-p, ?_, ?_, ?_⟩
        · show -p ∈ (upd S.cl S.nc out S.nc).take 2
          rw [upd_same, ha]; simp
        · show -p ∈ S.tr.take (S.lv.getD k 0) ++ [-p]
          simp
        · rw [letS_lev]
          show ((S.lv.take k).length : Int) ≤ _
          have hxp : x.natAbs ≠ (-p).natAbs := by
            rw [ha] at hnd
            simp only [List.map_cons, List.nodup_cons, List.mem_cons, not_or] at hnd
            exact fun e => hnd.1.1 e.symm
          have e : llev (letS (watchS (backS (lnS S out) k nx) out) (-p) (some S.nc)) x = llev S x := by
            show ((upd _ _ _ x.natAbs : VS)).level = _
            rw [upd_other hxp]
            exact backS_lev (S := lnS S out) (k := k) (nx := nx)
          rw [e, hb, List.length_take]; omega
    obtain ⟨p1, p2, p3, p4, p5, p6, p7, p8, p9⟩ := watch_parts i2 (c := out) (by rw [ha]; simp) hnd hrg ⟨out, hout, fun _ => Iff.rfl⟩
    have g0 : -p ≠ 0 := by omega
    have gn : (-p).natAbs ≤ n := by rw [Int.natAbs_neg]; exact hp.2
    have hreas : ∀ j, Option.some S.nc = Option.some j → j < S.nc + 1 ∧ -p ∈ upd S.cl S.nc out j ∧ ∀ b ∈ upd S.cl S.nc out j, b ≠ -p → -b ∈ S.tr.take (S.lv.getD k 0) := by
      intro j hj
      cases hj
      rw [upd_same]
      refine ⟨Nat.lt_succ_self _, by rw [ha]; simp, ?_⟩
      intro c hc hne
      rw [he] at hc
      exact hfalse c ((List.mem_cons.1 hc).resolve_left hne)
    have i4 : Inv n l d S.ln (letS (watchS (backS (lnS S out) k nx) out) (-p) (some S.nc)) := by
      refine ⟨p1.letS g0 gn f1 f2, p2.letS, p3.letS p1 f1 f2 hreas (fun h => by cases h), p4.letS, p5.letS p1 f1 f2 (fun hl => ?_), p6.letS p1 f1 f2, p7.letS p1 f1 f2, p8.letS, fun j hj => ?_⟩
      · refine .unit out (-p) hout (by rw [ha]; simp) fun c hc hne => ?_
        rw [he] at hc
        have hc2 := hfalse c ((List.mem_cons.1 hc).resolve_left hne)
        obtain ⟨m, hm, e⟩ := List.getElem_of_mem hc2
        have := p5.d0 m hm (by rw [hl]; rfl)
        rw [← e]; exact this
      · have hj : j < S.nc + 1 := hj
        by_cases hje : j = S.nc
        · subst hje; exact hw
        · exact (p9 j (by show j < S.nc; omega)).letS p1 p1.hdl f1 f2
    refine inv_more i4 (.inr ⟨S.nc, Nat.lt_succ_self _, fun x => ?_⟩)
    show x ∈ upd S.cl S.nc out S.nc ↔ _
    rw [upd_same]
end

end Go.Proofs.Ytajcfppemkdomaa

set_option linter.unusedVariables false
set_option linter.unusedSimpArgs false
set_option linter.unnecessarySimpa false
namespace Go.Proofs.Ytajcfppemkdomaa
open Go Go.Proofs Go.Abs

/-! ### No more than 3 to the power of variables are learned -/
def dig3 (c : Cl) (v : Nat) : Nat := if (v : Int) ∈ c then 1 else if -(v : Int) ∈ c then 2 else 0
def code3 (c : Cl) : Nat → Nat
  | 0 => 0
  | v + 1 => code3 c v + 3 ^ v * dig3 c (v + 1)
theorem dig3_lt (c : Cl) (v : Nat) : dig3 c v < 3 := by
  unfold dig3
  split
  · omega
  · split <;> omega
theorem code3_lt (c : Cl) : ∀ n, code3 c n < 3 ^ n
  | 0 => by simp [code3]
  | n + 1 => by
    have h1 := code3_lt c n
    have h2 := dig3_lt c (n + 1)
    unfold code3
    rw [Nat.pow_succ]
    have : 3 ^ n * dig3 c (n + 1) ≤ 3 ^ n * 2 := Nat.mul_le_mul_left _ (by omega)
    omega
theorem code3_inj {c d : Cl} : ∀ {n}, code3 c n = code3 d n → ∀ v, 1 ≤ v → v ≤ n → dig3 c v = dig3 d v
  | 0, _, v, h1, h2 => by omega
  | n + 1, h, v, h1, h2 => by
    have l1 := code3_lt c n
    have l2 := code3_lt d n
    unfold code3 at h
    have hd : dig3 c (n + 1) = dig3 d (n + 1) := by
      have e1 : (code3 c n + 3 ^ n * dig3 c (n + 1)) / 3 ^ n = dig3 c (n + 1) := by
        rw [Nat.add_mul_div_left _ _ (Nat.pow_pos (by omega)), Nat.div_eq_of_lt l1, Nat.zero_add]
      have e2 : (code3 d n + 3 ^ n * dig3 d (n + 1)) / 3 ^ n = dig3 d (n + 1) := by
        rw [Nat.add_mul_div_left _ _ (Nat.pow_pos (by omega)), Nat.div_eq_of_lt l2, Nat.zero_add]
      rw [← e1, ← e2, h]
    by_cases hv : v = n + 1
    · rw [hv]; exact hd
    · rw [hd] at h
      exact code3_inj (n := n) (by omega) v h1 (by omega)
theorem code3_mem {c d : Cl} {n : Nat} (hc : (c.map Int.natAbs).Nodup) (hr : ∀ a ∈ c, a ≠ 0 ∧ a.natAbs ≤ n) (hd : (d.map Int.natAbs).Nodup) (hr2 : ∀ a ∈ d, a ≠ 0 ∧ a.natAbs ≤ n) (h : code3 c n = code3 d n) : ∀ a, a ∈ c → a ∈ d := by
  intro a ha
  obtain ⟨h0, hn⟩ := hr a ha
  have e := code3_inj h a.natAbs (by omega) hn
  have hno := nodup_con hc a ha h0
  unfold dig3 at e
  rcases show ((a.natAbs : Nat) : Int) = a ∨ ((a.natAbs : Nat) : Int) = -a by omega with h1 | h1
  · rw [h1, if_pos ha] at e
    by_cases h2 : a ∈ d
    · exact h2
    · rw [if_neg h2] at e; split at e <;> omega
  · rw [h1, if_neg hno, Int.neg_neg, if_pos ha] at e
    by_cases h2 : -a ∈ d
    · rw [if_pos h2] at e; omega
    · rw [if_neg h2] at e
      by_cases h3 : a ∈ d
      · exact h3
      · rw [if_neg h3] at e; omega

section
variable {n : Nat} {l d L : List Cl} {S : St}
theorem Log.few (g : Log n l S) : S.ln.length ≤ 3 ^ n := by
  have h := nodup_le (m := 3 ^ n) (l := S.ln.map fun c => code3 c n) (by
    rw [List.Nodup, List.pairwise_map]
    refine g.lnew.imp_of_mem fun {a b} ha hb hab e => hab fun x => ?_
    obtain ⟨_, h1, h2⟩ := g.lrg a ha
    obtain ⟨_, h3, h4⟩ := g.lrg b hb
    exact ⟨code3_mem h1 h2 h3 h4 e x, code3_mem h3 h4 h1 h2 e.symm x⟩) (by
    intro x hx
    obtain ⟨c, _, rfl⟩ := List.mem_map.1 hx
    exact code3_lt c n)
  simpa using h
/-- With one conflict more there is room for one. -/
theorem Lrnt.few {out : Cl} {k : Nat} (h : Lrnt n l S out k) (i : Inv n l d S.ln S) : S.ln.length + 1 ≤ 3 ^ n := by
  have := (inv_lnS i h).g.few
  have e : (lnS S out).ln.length = S.ln.length + 1 := by show (S.ln ++ [out]).length = _; simp
  omega

/-! ### The beginning, and clauses that are added -/
def initS (n : Nat) (nx : List (Int × Int)) : St := { v := fun _ => ⟨0, 0, none, 0, 0⟩, cl := fun _ => [], nc := 0, wt := fun _ => [], tr := [], hd := 0, lv := [], ln := [], nx := nx }
theorem inv_init (n : Nat) (l : List Cl) {nx : List (Int × Int)} (h1 : ∀ i : Nat, 1 ≤ i → i ≤ n → ((i : Int), 0) ∈ nx) (h2 : ∀ t ∈ nx, 1 ≤ t.1 ∧ t.1 ≤ n) : Inv n l [] [] (initS n nx) where
  t := ⟨by simp [initS], fun a ha => (by cases ha), fun i hi hn => (by simp [initS, tval]), fun p hp => (by simp [initS] at hp), List.Pairwise.nil, fun x hx => (by cases hx), Nat.le_refl _⟩
  c := ⟨fun j hj => (by simp [initS] at hj), fun j hj => (by simp [initS] at hj), fun j hj => (by simp [initS] at hj), fun a j hj => (by cases hj), fun j hj => (by simp [initS] at hj), fun a => List.nodup_nil⟩
  r := ⟨fun p hp => (by simp [initS] at hp), fun p hp => (by simp [initS] at hp)⟩
  x := ⟨fun i hi hn _ => h1 i hi hn, h2⟩
  g := ⟨fun p hp => (by simp [initS] at hp), fun j hj => (by simp [initS] at hj), fun k hk => (by simp [initS] at hk), fun c hc => (by cases hc), List.Pairwise.nil⟩
  lc := fun c hc => by cases hc
  cv := fun c hc => by cases hc
  lt := fun x hx => by cases hx
  w := fun j hj => by simp [initS] at hj

theorem inv_cov (i : Inv n l d L S) {c : Cl} (h : (∃ a ∈ c, -a ∈ c) ∨ (∃ a ∈ c, a ∈ S.tr ∧ llev S a = 0) ∨ ∃ j, j < S.nc ∧ ∀ a, a ∈ S.cl j ↔ a ∈ c) : Inv n l (d ++ [c]) L S :=
  ⟨i.t, i.c, i.r, i.x, i.g, i.lc, fun x hx => by
    rcases List.mem_append.1 hx with hx | hx
    · exact i.cv x hx
    · rw [List.mem_singleton.1 hx]; exact h, i.lt, i.w⟩

/-- A clause's literals, each once; none, if one and its negation are there. -/
def ddp : Cl → Cl → Option Cl
  | e, [] => some e
  | e, a :: c => if -a ∈ e then none else if a ∈ e then ddp e c else ddp (e ++ [a]) c
theorem ddp_none : ∀ {c e c0 : Cl}, (∀ a ∈ e, a ∈ c0) → (∀ a ∈ c, a ∈ c0) → ddp e c = none → ∃ a ∈ c0, -a ∈ c0
  | [], e, c0, _, _, h => by cases h
  | a :: c, e, c0, h1, h2, h => by
    unfold ddp at h
    split at h
    · rename_i h3; exact ⟨a, h2 a (by simp), h1 _ h3⟩
    · split at h
      · exact ddp_none h1 (fun x hx => h2 x (by simp [hx])) h
      · refine ddp_none (fun x hx => ?_) (fun x hx => h2 x (by simp [hx])) h
        rcases List.mem_append.1 hx with hx | hx
        · exact h1 x hx
        · rw [List.mem_singleton.1 hx]; exact h2 a (by simp)
theorem ddp_some : ∀ {c e e' : Cl}, (e.map Int.natAbs).Nodup → (∀ a ∈ c, a ≠ 0) → ddp e c = some e' → (e'.map Int.natAbs).Nodup ∧ ∀ a, a ∈ e' ↔ a ∈ e ∨ a ∈ c
  | [], e, e', hn, _, h => by cases h; exact ⟨hn, by simp⟩
  | a :: c, e, e', hn, h0, h => by
    have h0' : ∀ b ∈ c, b ≠ 0 := fun b hb => h0 b (by simp [hb])
    unfold ddp at h
    split at h
    · cases h
    · rename_i h3
      split at h
      · rename_i h4
        obtain ⟨h5, h6⟩ := ddp_some hn h0' h
        refine ⟨h5, fun x => ?_⟩
        rw [h6, List.mem_cons]
        constructor
        · rintro (h | h)
          · exact .inl h
          · exact .inr (.inr h)
        · rintro (h | h | h)
          · exact .inl h
          · exact .inl (h ▸ h4)
          · exact .inr h
      · rename_i h4
        obtain ⟨h5, h6⟩ := ddp_some (e := e ++ [a]) (by
          rw [List.map_append, List.map_singleton, List.nodup_append]
          refine ⟨hn, by simp, fun x hx y hy => ?_⟩
          obtain ⟨b, hb, rfl⟩ := List.mem_map.1 hx
          rw [List.mem_singleton.1 hy]
          intro he
          rcases show b = a ∨ b = -a by omega with rfl | rfl
          · exact h4 hb
          · exact h3 hb) h0' h
        refine ⟨h5, fun x => ?_⟩
        rw [h6, List.mem_cons, List.mem_append, List.mem_singleton]
        constructor
        · rintro ((h | h) | h)
          · exact .inl h
          · exact .inr (.inl h)
          · exact .inr (.inr h)
        · rintro (h | h | h)
          · exact .inl (.inl h)
          · exact .inl (.inr h)
          · exact .inr h
theorem ddp_len : ∀ {c e e' : Cl}, ddp e c = some e' → e'.length ≤ e.length + c.length
  | [], e, e', h => by cases h; simp
  | a :: c, e, e', h => by
    unfold ddp at h
    split at h
    · cases h
    · split at h
      · have := ddp_len h; simp; omega
      · have := ddp_len h; simp at this ⊢; omega

/-- What adding tells: a clause of two literals and more is watched, one of one literal is let hold. -/
theorem inv_taut (i : Inv n l d L S) {c : Cl} (h : ddp [] c = none) : Inv n l (d ++ [c]) L S := inv_cov i (.inl (ddp_none (by simp) (fun _ h => h) h))
theorem inv_two (i : Inv n l d L S) {c e : Cl} (hc : c ∈ l) (hr : ∀ a ∈ c, a ≠ 0 ∧ a.natAbs ≤ n) (h : ddp [] c = some e) (h2 : 2 ≤ e.length) (hh : S.hd = 0) : Inv n l (d ++ [c]) L (watchS S e) := by
  obtain ⟨h3, h4⟩ := ddp_some (by simp) (fun a ha => (hr a ha).1) h
  have hm : ∀ a, a ∈ e ↔ a ∈ c := fun a => by rw [h4]; simp
  refine inv_cov (i.watch h2 h3 (fun a ha => hr a ((hm a).1 ha)) ⟨c, List.mem_append_left _ hc, hm⟩ ?_) (.inr (.inr ⟨S.nc, Nat.lt_succ_self _, fun a => by rw [watchS_new]; exact hm a⟩))
  intro x hx hx2
  rw [hh] at hx2
  simp at hx2
theorem one_mem {c : Cl} {a : Int} (hr : ∀ a ∈ c, a ≠ 0 ∧ a.natAbs ≤ n) (h : ddp [] c = some [a]) : ∀ b, b ∈ c ↔ b = a := by
  obtain ⟨h3, h4⟩ := ddp_some (by simp) (fun a ha => (hr a ha).1) h
  intro b
  have := h4 b
  simp at this
  exact this.symm
theorem inv_one (i : Inv n l d L S) {c : Cl} {a : Int} (hc : c ∈ l) (hr : ∀ a ∈ c, a ≠ 0 ∧ a.natAbs ≤ n) (h : ddp [] c = some [a]) (hl : S.lv = []) (h1 : ¬ a ∈ S.tr) (h2 : ¬ -a ∈ S.tr) : Inv n l (d ++ [c]) L (letS S a none) := by
  have hm := one_mem hr h
  obtain ⟨h3, h4⟩ := hr a ((hm a).2 rfl)
  refine inv_cov (i.letS h3 h4 h1 h2 (fun j hj => by cases hj) (fun _ => hl) fun _ => .unit c a (List.mem_append_left _ hc) ((hm a).2 rfl) fun b hb hne => absurd ((hm b).1 hb) hne) (.inr (.inl ⟨a, (hm a).2 rfl, ?_, ?_⟩))
  · show a ∈ S.tr ++ [a]; simp
  · rw [letS_lev, hl]; rfl
theorem inv_had (i : Inv n l d L S) {c : Cl} {a : Int} (hr : ∀ a ∈ c, a ≠ 0 ∧ a.natAbs ≤ n) (h : ddp [] c = some [a]) (hl : S.lv = []) (h1 : a ∈ S.tr) : Inv n l (d ++ [c]) L S := by
  have hm := one_mem hr h
  refine inv_cov i (.inr (.inl ⟨a, (hm a).2 rfl, h1, ?_⟩))
  have := i.t.lev_rng h1
  rw [hl] at this
  simp at this
  omega
theorem bad_empty {c : Cl} (hr : ∀ a ∈ c, a ≠ 0 ∧ a.natAbs ≤ n) (hc : c ∈ l) (h : ddp [] c = some []) : Bad (l ++ S.ln) [] := by
  obtain ⟨_, h4⟩ := ddp_some (by simp) (fun a ha => (hr a ha).1) h
  refine .inl ⟨c, List.mem_append_left _ hc, fun b hb => ?_⟩
  have := (h4 b).2 (.inr hb)
  cases this
theorem bad_one (i : Inv n l d L S) {c : Cl} {a : Int} (hc : c ∈ l) (hr : ∀ a ∈ c, a ≠ 0 ∧ a.natAbs ≤ n) (h : ddp [] c = some [a]) (hl : S.lv = []) (h1 : -a ∈ S.tr) : Bad (l ++ S.ln) [] := by
  have hm := one_mem hr h
  refine .inl ⟨c, List.mem_append_left _ hc, fun b hb => ?_⟩
  rw [(hm b).1 hb]
  obtain ⟨p, hp, e⟩ := List.getElem_of_mem h1
  rw [← e]
  exact i.g.d0 p hp (by rw [hl]; rfl)

/-! ### What does not depend on how often a variable was tried -/
def nxS (S : St) (nx : List (Int × Int)) : St := { S with nx := nx }
theorem inv_nx (i : Inv n l d L S) {nx : List (Int × Int)} (h1 : ∀ k, 1 ≤ k → k ≤ n → (S.v k).value = 0 → ((k : Int), (S.v k).score) ∈ nx) (h2 : ∀ t ∈ nx, 1 ≤ t.1 ∧ t.1 ≤ n) : Inv n l d L (nxS S nx) :=
  ⟨⟨i.t.nd, i.t.rng, i.t.val, i.t.lvl, i.t.lvs, i.t.lvh, i.t.hdl⟩, ⟨i.c.c2, i.c.cnd, i.c.crg, i.c.wts, i.c.wtc, i.c.wnd⟩, ⟨i.r.rea, i.r.dec⟩, ⟨h1, h2⟩, ⟨i.g.d0, i.g.src, i.g.rup, i.g.lrg, i.g.lnew⟩, i.lc, i.cv, i.lt, i.w⟩

/-- A variable's score grows. -/
def bumpS (S : St) (k : Nat) (s : Int) : St := { S with v := upd S.v k { S.v k with score := s } }
theorem bumpS_v {k : Nat} {s : Int} (i : Nat) : ((bumpS S k s).v i).value = (S.v i).value ∧ ((bumpS S k s).v i).level = (S.v i).level ∧ ((bumpS S k s).v i).reason = (S.v i).reason ∧ ((bumpS S k s).v i).last = (S.v i).last := by
  unfold bumpS upd
  dsimp only
  split
  · rename_i h; subst h; exact ⟨rfl, rfl, rfl, rfl⟩
  · exact ⟨rfl, rfl, rfl, rfl⟩
theorem bumpS_llev {k : Nat} {s a : Int} : llev (bumpS S k s) a = llev S a := (bumpS_v _).2.1
theorem inv_bump (i : Inv n l d L S) {k : Nat} {s : Int} (hk : 1 ≤ k ∧ k ≤ n) (hv : (S.v k).value ≠ 0) : Inv n l d L (bumpS S k s) := by
  refine ⟨⟨i.t.nd, i.t.rng, fun j h1 h2 => ((bumpS_v j).1).trans (i.t.val j h1 h2), fun p hp => bumpS_llev.trans (i.t.lvl p hp), i.t.lvs, i.t.lvh, i.t.hdl⟩, ⟨i.c.c2, i.c.cnd, i.c.crg, i.c.wts, i.c.wtc, i.c.wnd⟩,
    ⟨fun p hp j hj => i.r.rea p hp j (((bumpS_v _).2.2.1).symm.trans hj), fun p hp hj => i.r.dec p hp (((bumpS_v _).2.2.1).symm.trans hj)⟩, ⟨fun j h1 h2 hz => ?_, i.x.2⟩, ⟨i.g.d0, i.g.src, i.g.rup, i.g.lrg, i.g.lnew⟩, ?_, ?_, i.lt, ?_⟩
  · have hz' : (S.v j).value = 0 := ((bumpS_v j).1).symm.trans hz
    have hne : j ≠ k := fun e => hv (e ▸ hz')
    show ((j : Int), (upd S.v k _ j).score) ∈ S.nx
    rw [upd_other hne]
    exact i.x.all j h1 h2 hz'
  · intro c hc
    rcases i.lc c hc with ⟨a, h1, h2, h3⟩ | h
    · exact .inl ⟨a, h1, h2, bumpS_llev.trans h3⟩
    · exact .inr h
  · intro c hc
    rcases i.cv c hc with h | ⟨a, h1, h2, h3⟩ | h
    · exact .inl h
    · exact .inr (.inl ⟨a, h1, h2, bumpS_llev.trans h3⟩)
    · exact .inr (.inr h)
  · intro j hj x hx hm
    obtain ⟨y, h1, h2, h3⟩ := i.w j hj x hx hm
    exact ⟨y, h1, h2, by rw [bumpS_llev, bumpS_llev]; exact h3⟩
end

end Go.Proofs.Ytajcfppemkdomaa

set_option linter.unusedVariables false
set_option linter.unusedSimpArgs false
set_option linter.unnecessarySimpa false
namespace Go.Proofs.Ytajcfppemkdomaa
open Go Go.Proofs Go.Abs

/-! ### How a literal that fails is told on -/
/-- A clause with the literal that fails in its second place. -/
def visC (nt : Int) : Cl → Cl
  | x :: y :: r => if x = nt then y :: x :: r else x :: y :: r
  | c => c
theorem swS_self (S : St) (j : Nat) : swS S j (S.cl j) = S := by
  have : upd S.cl j (S.cl j) = S.cl := funext fun q => by
    by_cases he : q = j
    · subst he; rw [upd_same]
    · rw [upd_other he]
  show { S with cl := upd S.cl j (S.cl j), wt := S.wt } = S
  rw [this]

structure PI (n : Nat) (l d L : List Cl) (S : St) (nt : Int) (K R : List Nat) : Prop where
  i : Inv n l d L S
  h : S.hd < S.tr.length
  e : S.tr[S.hd] = -nt
  wt : S.wt nt = K ++ R
  dn : ∀ j, j < S.nc → ¬ j ∈ R → Wat (S.hd + 1) S j

/-- What no step turns. -/
structure Pr (S S' : St) : Prop where
  lv : S'.lv = S.lv
  nx : S'.nx = S.nx
  ln : S'.ln = S.ln
  nc : S'.nc = S.nc
theorem Pr.refl (S : St) : Pr S S := ⟨rfl, rfl, rfl, rfl⟩
theorem Pr.trans {A B C : St} (p : Pr A B) (q : Pr B C) : Pr A C := ⟨q.lv.trans p.lv, q.nx.trans p.nx, q.ln.trans p.ln, q.nc.trans p.nc⟩

section
variable {n : Nat} {l d L : List Cl} {S : St} {nt u : Int} {K R : List Nat} {j : Nat} {r : Cl}

theorem PI.start (i : Inv n l d L S) (h : S.hd < S.tr.length) : PI n l d L S (-S.tr[S.hd]) [] (S.wt (-S.tr[S.hd])) :=
  ⟨i, h, by omega, rfl, fun j hj hn => wat_other h (by omega) (i.w j hj) fun hm => hn (i.c.wtc j hj _ hm)⟩

theorem PI.mem (p : PI n l d L S nt K (j :: R)) : j < S.nc ∧ nt ∈ (S.cl j).take 2 ∧ ¬ j ∈ K ∧ ¬ j ∈ R := by
  have hm : j ∈ S.wt nt := by rw [p.wt]; simp
  have hn := p.i.c.wnd nt
  rw [p.wt, List.nodup_append] at hn
  refine ⟨(p.i.c.wts nt j hm).1, (p.i.c.wts nt j hm).2, fun hk => hn.2.2 j hk j (by simp) rfl, fun hr => ?_⟩
  exact (List.nodup_cons.1 hn.2.1).1 hr

theorem PI.shape (p : PI n l d L S nt K (j :: R)) : ∃ u r, visC nt (S.cl j) = u :: nt :: r ∧ PI n l d L (swS S j (u :: nt :: r)) nt K (j :: R) := by
  obtain ⟨hj, hm, _⟩ := p.mem
  obtain ⟨x, y, r0, ec⟩ : ∃ x y r0, S.cl j = x :: y :: r0 := by
    have := p.i.c.c2 j hj
    match h : S.cl j, this with
    | x :: y :: r0, _ => exact ⟨x, y, r0, rfl⟩
  by_cases hx : x = nt
  · subst hx
    refine ⟨y, r0, by rw [ec]; exact if_pos rfl, p.i.swS ec, p.h, p.e, p.wt, fun q hq hn => (p.dn q hq hn).two fun a => swS_two ec q a⟩
  · have hy : y = nt := by
      rw [ec] at hm
      simp only [List.take_succ_cons, List.take_zero, List.mem_cons, List.not_mem_nil, or_false] at hm
      rcases hm with hm | hm
      · exact absurd hm.symm hx
      · exact hm.symm
    subst hy
    refine ⟨x, r0, by rw [ec]; exact if_neg hx, ?_⟩
    rw [← ec, swS_self]
    exact p

theorem PI.stay (p : PI n l d L S nt K (j :: R)) (hc : S.cl j = u :: nt :: r) (hu : u ∈ S.tr) : PI n l d L S nt (K ++ [j]) R :=
  ⟨p.i, p.h, p.e, by rw [p.wt]; simp, fun q hq hn => by
    by_cases he : q = j
    · subst he; exact wat_first p.i.t p.h hc p.e hu
    · exact p.dn q hq (by simp [he, hn])⟩

theorem PI.move (p : PI n l d L S nt K (j :: R)) (hc : S.cl j = u :: nt :: r) {k : Nat} (hk : k < r.length) (hx : ¬ u ∈ S.tr) (ha : ¬ -r[k] ∈ S.tr) : PI n l d L (mvS S j nt r[k] (u :: r[k] :: r.set k nt)) nt K R := by
  obtain ⟨hj, hm, hK, hR⟩ := p.mem
  obtain ⟨a, ea⟩ : ∃ a, a = r[k] := ⟨_, rfl⟩
  rw [← ea] at ha ⊢
  have e1 : r = r.take k ++ a :: r.drop (k + 1) := by rw [ea, List.getElem_cons_drop, List.take_append_drop]
  have e2 : r.set k nt = r.take k ++ nt :: r.drop (k + 1) := by rw [List.set_eq_take_append_cons_drop, if_pos hk]
  rw [e2]
  have hc' : S.cl j = u :: nt :: (r.take k ++ a :: r.drop (k + 1)) := by rw [← e1]; exact hc
  have hnd := p.i.c.cnd j hj
  rw [hc'] at hnd
  obtain ⟨n1, n2, n3⟩ := mv_ne hnd
  have hw := wat_move p.i.t p.h hc' n1 p.e (p.i.w j hj) hx ha
  refine ⟨p.i.mvS hj hc' (hw.weak (Nat.le_succ _)), p.h, p.e, ?_, fun q hq hn => ?_⟩
  · show (if nt = nt then (S.wt nt).erase j else _) = _
    rw [if_pos rfl, p.wt, List.erase_append_right _ hK, List.erase_cons_head]
  · by_cases he : q = j
    · subst he; exact hw
    · exact (p.dn q hq (by simp [he, hn])).two fun b => by rw [upd_other he]

theorem PI.lets (p : PI n l d L S nt K (j :: R)) (hc : S.cl j = u :: nt :: r) (h1 : ¬ u ∈ S.tr) (h2 : ¬ -u ∈ S.tr) (ha : ∀ b ∈ r, -b ∈ S.tr) : PI n l d L (letS S u (some j)) nt (K ++ [j]) R := by
  obtain ⟨hj, hm, hK, hR⟩ := p.mem
  obtain ⟨u0, un⟩ := p.i.c.crg j hj u (by rw [hc]; simp)
  have hnt : -nt ∈ S.tr := by rw [← p.e]; exact List.getElem_mem p.h
  have i2 : Inv n l d L (letS S u (some j)) := p.i.letS u0 un h1 h2 (fun q hq => by
    cases hq
    refine ⟨hj, by rw [hc]; simp, fun b hb hne => ?_⟩
    rw [hc] at hb
    simp only [List.mem_cons] at hb
    rcases hb with hb | hb | hb
    · exact absurd hb hne
    · rw [hb]; exact hnt
    · exact ha b hb) (fun h => by cases h) (fun h => by cases h)
  have hh : (letS S u (some j)).hd < (letS S u (some j)).tr.length := by
    show S.hd < (S.tr ++ [u]).length
    rw [List.length_append]; have := p.h; omega
  have he : (letS S u (some j)).tr[(letS S u (some j)).hd] = -nt := by
    exact (List.getElem_append_left p.h).trans p.e
  refine ⟨i2, hh, he, by show S.wt nt = _; rw [p.wt]; simp, fun q hq hn => ?_⟩
  by_cases hqj : q = j
  · subst hqj
    exact wat_first i2.t hh hc he (by show u ∈ S.tr ++ [u]; simp)
  · exact (p.dn q hq (by simp [hqj, hn])).letS p.i.t p.h h1 h2

theorem PI.done (p : PI n l d L S nt K []) : Inv n l d L (nextS S) := p.i.nextS p.h fun j hj => p.dn j hj (by simp)
end

end Go.Proofs.Ytajcfppemkdomaa

set_option linter.unusedVariables false
set_option linter.unusedSimpArgs false
set_option linter.unnecessarySimpa false
namespace Go.Proofs.Ytajcfppemkdomaa
open Go Go.Proofs Go.Abs

/-! ### Only scores have turned -/
structure Sco (S S' : St) : Prop where
  cl : S'.cl = S.cl
  nc : S'.nc = S.nc
  wt : S'.wt = S.wt
  tr : S'.tr = S.tr
  hd : S'.hd = S.hd
  lv : S'.lv = S.lv
  ln : S'.ln = S.ln
  nx : S'.nx = S.nx
  value : ∀ i, (S'.v i).value = (S.v i).value
  level : ∀ i, (S'.v i).level = (S.v i).level
  reason : ∀ i, (S'.v i).reason = (S.v i).reason
theorem Sco.refl (S : St) : Sco S S := ⟨rfl, rfl, rfl, rfl, rfl, rfl, rfl, rfl, fun _ => rfl, fun _ => rfl, fun _ => rfl⟩

section
variable {n : Nat} {l d L : List Cl} {S S' : St}
theorem Sco.bump (h : Sco S S') (k : Nat) (s : Int) : Sco S (bumpS S' k s) :=
  ⟨h.cl, h.nc, h.wt, h.tr, h.hd, h.lv, h.ln, h.nx, fun i => (bumpS_v i).1.trans (h.value i), fun i => (bumpS_v i).2.1.trans (h.level i), fun i => (bumpS_v i).2.2.1.trans (h.reason i)⟩
theorem Sco.llev (h : Sco S S') (a : Int) : llev S' a = llev S a := h.level _
theorem Lrnt.sco {out : Cl} {k : Nat} (h : Lrnt n l S out k) (q : Sco S S') : Lrnt n l S' out k := by
  refine ⟨by rw [q.ln]; exact h.bad, h.nd, h.rng, ?_, by rw [q.lv]; exact h.klt⟩
  obtain ⟨p, rest, h1, h2, h3, h4, h5⟩ := h.fst
  refine ⟨p, rest, h1, by rw [q.tr]; exact h2, by rw [q.llev, q.lv]; exact h3, fun a ha => ⟨by rw [q.tr]; exact (h4 a ha).1, by rw [q.llev]; exact (h4 a ha).2⟩, ?_⟩
  rcases h5 with h5 | ⟨a, r, h5, h6⟩
  · exact .inl h5
  · exact .inr ⟨a, r, h5, by rw [q.llev]; exact h6⟩

/-- The clause that is told, with a literal of the greatest level in its second place. -/
theorem Lrnt.make (i : Inv n l d L S) {seen : List Nat} {rest rest' : Cl} (k : LI S seen rest) {q : Nat} (hq : q < S.tr.length) (hs : (S.tr[q]).natAbs ∈ seen) (hD : Go.Proofs.Ytajcfppemkdomaa.llev S S.tr[q] = S.lv.length)
    (hb : Bad (l ++ S.ln) (negs (-S.tr[q] :: rest))) (hp : rest'.Perm rest) {m : Nat} (hm : (rest' = [] ∧ m = 0) ∨ ∃ a r, rest' = a :: r ∧ Go.Proofs.Ytajcfppemkdomaa.llev S a = m) (hmax : ∀ a ∈ rest', Go.Proofs.Ytajcfppemkdomaa.llev S a ≤ m) (hlv : 0 < S.lv.length)
    (hbad : Bad (l ++ S.ln) (negs (-S.tr[q] :: rest'))) : Lrnt n l S (-S.tr[q] :: rest') m where
  bad := hbad
  nd := by
    rw [List.map_cons, List.nodup_cons]
    refine ⟨fun hx => ?_, (hp.map _).nodup_iff.2 k.rn⟩
    obtain ⟨b, hb1, hb2⟩ := List.mem_map.1 hx
    obtain ⟨h1, h2, h3, h4⟩ := k.s2 b (hp.mem_iff.1 hb1)
    have h5 : -b = S.tr[q] := nodup_abs i.t.nd (-b) h1 _ (List.getElem_mem hq) (by rw [Int.natAbs_neg, hb2, Int.natAbs_neg])
    rw [← h5, llev_neg] at hD
    omega
  rng a ha := by
    rcases List.mem_cons.1 ha with rfl | ha
    · have := i.t.rng _ (List.getElem_mem hq)
      omega
    · have := i.t.rng _ (k.s2 a (hp.mem_iff.1 ha)).1
      omega
  fst := ⟨S.tr[q], rest', rfl, List.getElem_mem hq, hD, fun a ha => ⟨(k.s2 a (hp.mem_iff.1 ha)).1, hmax a ha⟩, hm⟩
  klt := by
    rcases hm with ⟨_, rfl⟩ | ⟨a, r, h1, h2⟩
    · exact hlv
    · have := (k.s2 a (hp.mem_iff.1 (by rw [h1]; simp))).2.2.1
      omega
end

end Go.Proofs.Ytajcfppemkdomaa

set_option linter.unusedVariables false
set_option linter.unusedSimpArgs false
set_option linter.unnecessarySimpa false
namespace Go.Proofs.Ytajcfppemkdomaa
open Go Go.Proofs Go.Abs

/-! ### How a conflict is looked at, round by round -/
section
variable {n : Nat} {l d Lc : List Cl} {S : St}

theorem DoneAt.mono {seen seen' : List Nat} {i : Nat} (h : DoneAt S seen i) (hs : ∀ v ∈ seen, v ∈ seen') (hn : ∀ (hi : i < S.tr.length), (S.tr[i]).natAbs ∈ seen' → (S.tr[i]).natAbs ∈ seen) : DoneAt S seen' i := by
  intro hi h1 h2
  obtain ⟨k, k1, k2, k3⟩ := h hi (hn hi h1) h2
  exact ⟨k, k1, k2, fun b hb hne => ⟨(k3 b hb hne).1, (k3 b hb hne).2.mono hs⟩⟩

theorem take_place (t : Tr n S) {i q : Nat} (hi : i < S.tr.length) {a : Int} (ha : -a ∈ S.tr.take q) (he : (S.tr[i]).natAbs = a.natAbs) : i < q := by
  obtain ⟨p, hp, hpq, e⟩ := mem_take_at ha
  have h1 : S.tr[i] = S.tr[p] := nodup_abs t.nd _ (List.getElem_mem hi) _ (List.getElem_mem hp) (by rw [he, e, Int.natAbs_neg])
  have hnd := List.pairwise_iff_getElem.1 t.nodup
  rcases Nat.lt_trichotomy i p with h2 | h2 | h2
  · omega
  · omega
  · exact absurd h1.symm (hnd p i hp hi h2)

/-- What a round begins with: of the trail all from a place on is looked at, but for the literal there, of which a clause is. -/
structure LA (S : St) (j0 q : Nat) (p : Int) (j : Nat) (seen : List Nat) (rest : Cl) : Prop where
  li : LI S seen rest
  dn : ∀ i, q < i → DoneAt S seen i
  qn : q ≤ S.tr.length
  jn : j < S.nc
  jf : ∀ b ∈ S.cl j, b ≠ p → -b ∈ S.tr.take q
  pp : (p = 0 ∧ q = S.tr.length ∧ j = j0) ∨ ((∃ hq : q < S.tr.length, p = S.tr[q]) ∧ p ∈ S.cl j ∧ openD S seen q ≠ 0 ∧ ∀ b ∈ S.cl j0, Acc S seen b)

/-- What it ends with. -/
structure LC (S : St) (j0 q : Nat) (seen : List Nat) (rest : Cl) : Prop where
  li : LI S seen rest
  dn : ∀ i, q ≤ i → DoneAt S seen i
  qn : q ≤ S.tr.length
  op : openD S seen q ≠ 0
  ac : ∀ b ∈ S.cl j0, Acc S seen b

theorem LA.mark {j0 q j : Nat} {p : Int} {seen : List Nat} {rest : Cl} (k : LA S j0 q p j seen rest) (t : Tr n S) {a : Int} (ha : a ∈ S.cl j) (hap : a ≠ p) (h0 : llev S a ≠ 0) (hs : ¬ a.natAbs ∈ seen) :
    (llev S a = S.lv.length → LA S j0 q p j (seen ++ [a.natAbs]) rest ∧ openD S (seen ++ [a.natAbs]) q = openD S seen q + 1) ∧
    (llev S a ≠ S.lv.length → LA S j0 q p j (seen ++ [a.natAbs]) (rest ++ [a]) ∧ openD S (seen ++ [a.natAbs]) q = openD S seen q) := by
  have hat := k.jf a ha hap
  obtain ⟨m1, m2⟩ := k.li.mark t hat h0 hs
  have hsub : ∀ v ∈ seen, v ∈ seen ++ [a.natAbs] := fun v hv => List.mem_append_left _ hv
  have dn : ∀ i, q < i → DoneAt S (seen ++ [a.natAbs]) i := fun i hi => (k.dn i hi).mono hsub fun hil hm => by
    rcases List.mem_append.1 hm with hm | hm
    · exact hm
    · have := take_place t hil hat (List.mem_singleton.1 hm)
      omega
  refine ⟨fun h => ⟨⟨(m1 h).1, dn, k.qn, k.jn, k.jf, ?_⟩, (m1 h).2⟩, fun h => ⟨⟨(m2 h).1, dn, k.qn, k.jn, k.jf, ?_⟩, (m2 h).2⟩⟩
  · rcases k.pp with h1 | ⟨h1, h2, h3, h4⟩
    · exact .inl h1
    · exact .inr ⟨h1, h2, by rw [(m1 h).2]; omega, fun b hb => (h4 b hb).mono hsub⟩
  · rcases k.pp with h1 | ⟨h1, h2, h3, h4⟩
    · exact .inl h1
    · exact .inr ⟨h1, h2, by rw [(m2 h).2]; exact h3, fun b hb => (h4 b hb).mono hsub⟩

theorem LA.done {j0 q j : Nat} {p : Int} {seen : List Nat} {rest : Cl} (k : LA S j0 q p j seen rest) (t : Tr n S) (h0 : ∀ b ∈ S.cl j0, b ≠ 0) (hlv : 0 < S.lv.length) (htop : ∃ b ∈ S.cl j0, llev S b = S.lv.length)
    (hac : ∀ b ∈ S.cl j, b ≠ p → Acc S seen b) : LC S j0 q seen rest := by
  rcases k.pp with ⟨rfl, hq, rfl⟩ | ⟨⟨hq, hp⟩, h2, h3, h4⟩
  · have hac : ∀ b ∈ S.cl j, Acc S seen b := fun b hb => hac b hb (h0 b hb)
    refine ⟨k.li, fun i hi h => by omega, k.qn, ?_, hac⟩
    obtain ⟨b, hb, hl⟩ := htop
    have h1 := k.jf b hb (h0 b hb)
    have h2 : b.natAbs ∈ seen := (hac b hb).resolve_left (by omega)
    unfold openD
    have : 0 < (S.tr.take q).countP fun a => decide (a.natAbs ∈ seen) && decide (llev S a = S.lv.length) := List.countP_pos_iff.2 ⟨-b, h1, by simp [h2, llev_neg, hl]⟩
    omega
  · refine ⟨k.li, fun i hi => ?_, k.qn, h3, h4⟩
    rcases Nat.lt_or_eq_of_le hi with hi | rfl
    · exact k.dn i hi
    · intro _ _ _
      exact ⟨j, k.jn, hp ▸ h2, fun b hb hne => by
        rw [← hp] at hne
        exact ⟨k.jf b hb hne, hac b hb hne⟩⟩

/-- The next literal that was seen. -/
theorem LC.next {j0 q q' : Nat} {seen : List Nat} {rest : Cl} (k : LC S j0 q seen rest) (i : Inv n l d Lc S) (hlv : 0 < S.lv.length) (hj0 : j0 < S.nc) (hf : ∀ b ∈ S.cl j0, -b ∈ S.tr) (h1 : q' + 1 ≤ q) (h2 : q' < S.tr.length) (hg : Gap S seen (q' + 1) q) (hs : (S.tr[q']).natAbs ∈ seen) :
    llev S S.tr[q'] = S.lv.length ∧ openD S seen q = openD S seen q' + 1 ∧ (openD S seen q' = 0 → Bad (l ++ S.ln) (negs (-S.tr[q'] :: rest))) ∧
    (openD S seen q' ≠ 0 → ∃ c, (S.v (S.tr[q']).natAbs).reason = some c ∧ LA S j0 q' S.tr[q'] c seen rest) := by
  obtain ⟨hD, ho⟩ := open_found i.t h1 h2 hg k.op hs
  have dn : ∀ p, q' < p → DoneAt S seen p := by
    intro p hp hpl hps hpd
    by_cases hpq : p < q
    · exact absurd hps (hg p hpl (by omega) hpq)
    · exact k.dn p (by omega) hpl hps hpd
  refine ⟨hD, ho, fun h => learn_bad i k.li h2 hs hD h dn hj0 fun b hb => ⟨hf b hb, k.ac b hb⟩, fun h => ?_⟩
  obtain ⟨c, c1, c2, c3, c4⟩ := reason_of (seen := seen) i.r i.t h2 hlv hD h
  exact ⟨c, c1, k.li, dn, by omega, c2, c4, .inr ⟨⟨h2, rfl⟩, c3, h, k.ac⟩⟩

theorem LA.start (t : Tr n S) {j0 : Nat} (hj : j0 < S.nc) (hf : ∀ b ∈ S.cl j0, -b ∈ S.tr) : LA S j0 S.tr.length 0 j0 [] [] :=
  ⟨LI.start, fun i hi h => by omega, Nat.le_refl _, hj, fun b hb _ => by rw [List.take_length]; exact hf b hb, .inl ⟨rfl, rfl, rfl⟩⟩

/-- What is open is not more than the trail has. -/
theorem openD_le {seen : List Nat} {q : Nat} (h : q ≤ S.tr.length) : openD S seen q ≤ q := by
  unfold openD
  refine Nat.le_trans List.countP_le_length ?_
  rw [List.length_take]; omega
end

end Go.Proofs.Ytajcfppemkdomaa
