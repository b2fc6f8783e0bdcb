/- Functions of the program, part 13. -/
import Derived.Test.YtegnjoonhabicaaF12
set_option linter.unusedVariables false
set_option linter.unusedSimpArgs false
set_option linter.unnecessarySimpa false
namespace Go.Proofs.Ytegnjoonhabicaa
open Go Go.Proofs Go.Abs Go.RowKit

open Classical in
/-- What holds, by variables. -/
noncomputable def canon (p : Int → Prop) (n : Nat) : Cl :=
  (List.range n).filterMap fun (k : Nat) => if p ((k : Int) + 1) then some ((k : Int) + 1) else if p (-((k : Int) + 1)) then some (-((k : Int) + 1)) else none

open Classical in
theorem canon_abs {p : Int → Prop} {k : Nat} {a : Int} (h : (if p ((k : Int) + 1) then some ((k : Int) + 1) else if p (-((k : Int) + 1)) then some (-((k : Int) + 1)) else none) = some a) : absI a = (k : Int) + 1 ∧ p a := by
  split at h
  · rename_i hp
    cases h
    refine ⟨?_, hp⟩
    unfold absI; omega
  · split at h
    · rename_i hp
      cases h
      refine ⟨?_, hp⟩
      unfold absI; omega
    · cases h

theorem canon_sorted (p : Int → Prop) (n : Nat) : (canon p n).Pairwise fun x y => absI x < absI y := by
  unfold canon
  rw [List.pairwise_filterMap]
  have h := List.pairwise_lt_range (n := n)
  refine h.imp ?_
  intro a b hab x hx y hy
  have h1 := (canon_abs hx).1
  have h2 := (canon_abs hy).1
  omega

theorem canon_mem {p : Int → Prop} {n : Nat} {a : Int} (hc : ∀ x, p x → ¬ p (-x)) (hr : ∀ x, p x → x ≠ 0 ∧ absI x ≤ n) : a ∈ canon p n ↔ p a := by
  unfold canon
  rw [List.mem_filterMap]
  constructor
  · rintro ⟨k, _, h⟩
    exact (canon_abs h).2
  · intro h
    obtain ⟨h0, h1⟩ := hr a h
    refine ⟨(absI a - 1).toNat, ?_, ?_⟩
    · rw [List.mem_range]; unfold absI at *; omega
    · have e : (((absI a - 1).toNat : Nat) : Int) + 1 = absI a := by unfold absI at *; omega
      rw [e]
      by_cases hp : 0 < a
      · have : absI a = a := by unfold absI; omega
        rw [this, if_pos h]
      · have e2 : absI a = -a := by unfold absI; omega
        rw [e2, if_neg (hc a h), Int.neg_neg, if_pos h]

theorem sorted_eq : ∀ {l l' : Cl}, (l.Pairwise fun x y => absI x < absI y) → (l'.Pairwise fun x y => absI x < absI y) → (∀ a, a ∈ l ↔ a ∈ l') → l = l'
  | [], [], _, _, _ => rfl
  | [], y :: l', _, _, h => by have := (h y).2 List.mem_cons_self; cases this
  | x :: l, [], _, _, h => by have := (h x).1 List.mem_cons_self; cases this
  | x :: l, y :: l', h1, h2, h => by
    rw [List.pairwise_cons] at h1 h2
    have hxy : x = y := by
      rcases List.mem_cons.1 ((h x).1 List.mem_cons_self) with h3 | h3
      · exact h3
      · rcases List.mem_cons.1 ((h y).2 List.mem_cons_self) with h4 | h4
        · exact h4.symm
        · have := h1.1 y h4
          have := h2.1 x h3
          omega
    subst hxy
    congr 1
    refine sorted_eq h1.2 h2.2 fun a => ?_
    have := h a
    simp only [List.mem_cons] at this
    constructor
    · intro ha
      rcases this.1 (.inr ha) with rfl | h3
      · have := h1.1 a ha; omega
      · exact h3
    · intro ha
      rcases this.2 (.inr ha) with rfl | h3
      · have := h2.1 a ha; omega
      · exact h3

theorem der_rng {l : List Cl} {given : Cl} {P : Int → Prop} (hl : ∀ c ∈ l, ∀ a ∈ c, P a) (hg : ∀ a ∈ given, P a) {a : Int} (h : Der l given a) : P a := by
  cases h with
  | start _ h => exact hg a h
  | unit c _ h1 h2 _ => exact hl c h1 a h2

open Classical in
/-- What Propagate tells. -/
noncomputable def propV (l : List Cl) (vars : Int) (given : Cl) : Cl × Bool × Int :=
  if ask l vars [given] ≠ 0 then ([], false, ask l vars [given]) else if Bad l given then ([], true, 0) else (canon (Der l given) vars.toNat, false, 0)

theorem canon_of {l : List Cl} {given ks c' : Cl} {vars : Int} (hl : ∀ c ∈ l, ∀ a ∈ c, lit vars a = true) (hg : ∀ a ∈ given, lit vars a = true) (hfin : Fin l given ks) (hp : c'.Perm ks) (hs : c'.Pairwise fun x y => absI x ≤ absI y) :
    c' = canon (Der l given) vars.toNat := by
  have hcon : ∀ x, Der l given x → ¬ Der l given (-x) := fun x h1 h2 => hfin.not (.inr ⟨x, h1, h2⟩)
  have hrng : ∀ x, Der l given x → x ≠ 0 ∧ absI x ≤ (vars.toNat : Int) := by
    intro x hx
    have := lit_rng (der_rng (P := fun a => lit vars a = true) hl hg hx)
    refine ⟨this.1, ?_⟩
    unfold absI; omega
  have hnd : c'.Nodup := hp.nodup_iff.2 hfin.nod
  have hm : ∀ a, a ∈ c' ↔ Der l given a := fun a => by rw [hp.mem_iff, hfin.iff]
  refine sorted_eq ?_ (canon_sorted _ _) fun a => by rw [hm, canon_mem hcon hrng]
  rw [List.pairwise_iff_getElem] at hs ⊢
  intro i j hi hj hij
  have h1 := hs i j hi hj hij
  have hne : c'[i] ≠ c'[j] := fun h => by have := (List.getElem_inj hnd).1 h; omega
  have hne2 : c'[i] ≠ -c'[j] := by
    intro h
    have ha := (hm _).1 (List.getElem_mem hj)
    have hb := (hm _).1 (List.getElem_mem hi)
    rw [h] at hb
    exact hcon _ ha hb
  unfold absI at *
  omega

theorem nodup_len : ∀ (n : Nat) (l : List Nat), l.Nodup → (∀ x ∈ l, x < n) → l.length ≤ n
  | 0, l, _, h => by
    cases l with
    | nil => simp
    | cons x l => have := h x List.mem_cons_self; omega
  | n + 1, l, hn, h => by
    by_cases hm : n ∈ l
    · have h1 := nodup_len n (l.erase n) (hn.erase n) (fun x hx => by
        have h2 := (hn.mem_erase_iff).1 hx
        have := h x h2.2
        have := h2.1
        omega)
      rw [List.length_erase_of_mem hm] at h1
      omega
    · have := nodup_len n l hn (fun x hx => by
        have := h x hx
        have : x ≠ n := fun he => hm (he ▸ hx)
        omega)
      omega

theorem held_len {ks : Cl} (hn : ks.Nodup) (hr : ∀ a ∈ ks, -20000 ≤ a ∧ a ≤ 20000) : ks.length ≤ 40001 := by
  have h1 : (ks.map fun a => (a + 20000).toNat).Nodup := by
    unfold List.Nodup
    rw [List.pairwise_map]
    refine (List.pairwise_iff_getElem.2 ?_)
    intro i j hi hj hij he
    have h2 := hr _ (List.getElem_mem hi)
    have h3 := hr _ (List.getElem_mem hj)
    have h4 : ks[i] = ks[j] := by omega
    have := (List.getElem_inj hn).1 h4
    omega
  have h2 := nodup_len 40001 _ h1 (fun x hx => by
    obtain ⟨a, ha, rfl⟩ := List.mem_map.1 hx
    have := hr a ha
    omega)
  simpa using h2

theorem erase_perm {α : Type} {l : List α} {i : Nat} (h : i < l.length) : (l[i] :: l.eraseIdx i).Perm l := by
  induction l generalizing i with
  | nil => simp at h
  | cons x l ih =>
    cases i with
    | zero => simp
    | succ i =>
      simp only [List.getElem_cons_succ, List.eraseIdx_cons_succ]
      exact (List.Perm.swap _ _ _).trans ((ih (by simpa using h)).cons x)

theorem heldT_erase {l : Cl} {i : Nat} : (heldT l).eraseIdx i = heldT (l.eraseIdx i) := by
  unfold heldT
  exact (map_erase l i).symm

theorem vcNextM_ints {left : Cl} {id : Nat} {dst : Option Tmp} {Kn : Fr → H → Prop} {f : Fr} {h : H} (h1 : left = [] → Kn (f.put dst (.tup [.bool false])) h)
    (h2 : ∀ i (hi : i < left.length), Kn (f.put dst (.tup [.bool true, vi left[i], .bool true])) (h.set id (.misc (.miter ((left.eraseIdx i).map vi) (heldT (left.eraseIdx i)) (some (vi left[i], .bool true)))))) :
    vcNextM (left.map vi) (heldT left) id dst Kn f h := by
  refine ⟨fun he => h1 (by simpa using he), fun i hi => ?_⟩
  have hi : i < left.length := by simpa using hi
  have e1 : (left.map vi).getD i .any = vi left[i] := getI hi _
  have e2 : (heldT left).getD i .any = .bool true := by
    unfold heldT
    rw [getD_map hi]
  rw [e1, e2, ← map_erase, heldT_erase]
  exact h2 i hi

set_option maxHeartbeats 2000000 in
theorem ev_prop (l : List Cl) (vars : Int) (given : Cl) : Ev TE 10 [cls l, vi vars, ints given] (.tup [ints (propV l vars given).1, .bool (propV l vars given).2.1, vi (propV l vars given).2.2]) := by
  have hM : maxLen = 9223372036854775807 := rfl
  refine Ev.of_awp Try.func10 rfl (by simp [nts]) (vc_ok mixed _ _ _ _ ?_)
  simp only [sa0.down, sa1.down, sa2.down, sa3.down, sa4.down, sb0.down, sb1.down, sb2.down, sb3.down, ↓reduceIte, Nat.reduceEqDiff, Nat.reduceLT, Nat.reduceLeDiff, Nat.reduceAdd, Nat.reduceSub, Int.reduceToNat, Nat.reduceDiv, Int.reduceLT, Int.reduceLE, Int.reduceNeg, Int.reduceBEq, Int.reduceBNe, Int.reduceAdd, Int.reduceSub, Nat.reduceBEq, reduceCtorEq, Nat.reduceMul, TEP, tis, ens, nts, Try.results10]
  refine ⟨⟨rfl, by decide⟩, ACalls.ev (Ev.le (VLes.cons (VLe.refl _) (VLes.cons (VLe.refl _) (VLes.cons VLe.exact VLes.nil))) (ev_can l vars [given])) (by simp [V.dats, V.dat, dats_cls, dats_vi]) ?_⟩
  simp only [sa0.down, sa1.down, sa2.down, sa3.down, sa4.down, sb0.down, sb1.down, sb2.down, sb3.down, ↓reduceIte, Nat.reduceEqDiff, Nat.reduceLT, Nat.reduceLeDiff, Nat.reduceAdd, Nat.reduceSub, Int.reduceToNat, Nat.reduceDiv, Int.reduceLT, Int.reduceLE, Int.reduceNeg, Int.reduceBEq, Int.reduceBNe, Int.reduceAdd, Int.reduceSub, Nat.reduceBEq, reduceCtorEq, Nat.reduceMul, TEP, tis, ens, nts, Try.results10]
  refine vcB.mk (fun hq => ?_) (fun hq => ?_)
  · have hq : ask l vars [given] ≠ 0 := by simpa using hq
    have h0 : propV l vars given = ([], false, ask l vars [given]) := by unfold propV; rw [if_pos hq]
    rw [h0]
    simp only [sa0.down, sa1.down, sa2.down, sa3.down, sa4.down, sb0.down, sb1.down, sb2.down, sb3.down, ↓reduceIte, Nat.reduceEqDiff, Nat.reduceLT, Nat.reduceLeDiff, Nat.reduceAdd, Nat.reduceSub, Int.reduceToNat, Nat.reduceDiv, Int.reduceLT, Int.reduceLE, Int.reduceNeg, Int.reduceBEq, Int.reduceBNe, Int.reduceAdd, Int.reduceSub, Nat.reduceBEq, reduceCtorEq, Nat.reduceMul, TEP, tis, ens, nts, Try.results10]
    exact Reif.tup (Reifs.cons Reif.nils (Reifs.dat rfl))
  · have hq : ask l vars [given] = 0 := by simpa using hq
    obtain ⟨q1, q2, q3, q4, q5, q6, q7, q8⟩ := ask_ok hq
    have q2 := q2 given (by simp)
    have q8 := q8 given (by simp)
    simp only [sa0.down, sa1.down, sa2.down, sa3.down, sa4.down, sb0.down, sb1.down, sb2.down, sb3.down, ↓reduceIte, Nat.reduceEqDiff, Nat.reduceLT, Nat.reduceLeDiff, Nat.reduceAdd, Nat.reduceSub, Int.reduceToNat, Nat.reduceDiv, Int.reduceLT, Int.reduceLE, Int.reduceNeg, Int.reduceBEq, Int.reduceBNe, Int.reduceAdd, Int.reduceSub, Nat.reduceBEq, reduceCtorEq, Nat.reduceMul, TEP, tis, ens, nts, Try.results10]
    refine ACalls.evR (ev_reach l given q1 q2) (by simp [V.dats, V.dat, dats_cls, dats_vi]) ?_
    rintro r (⟨ks, rfl, hfin⟩ | ⟨rfl, hbad⟩)
    · have h0 : propV l vars given = (canon (Der l given) vars.toNat, false, 0) := by unfold propV; rw [if_neg (by simp [hq]), if_neg hfin.not]
      rw [h0]
      have hks : ks.length ≤ 40001 := held_len hfin.nod fun a ha => ⟨(hfin.rng a ha).1, (hfin.rng a ha).2.1⟩
      simp only [sa0.down, sa1.down, sa2.down, sa3.down, sa4.down, sb0.down, sb1.down, sb2.down, sb3.down, ↓reduceIte, Nat.reduceEqDiff, Nat.reduceLT, Nat.reduceLeDiff, Nat.reduceAdd, Nat.reduceSub, Int.reduceToNat, Nat.reduceDiv, Int.reduceLT, Int.reduceLE, Int.reduceNeg, Int.reduceBEq, Int.reduceBNe, Int.reduceAdd, Int.reduceSub, Nat.reduceBEq, reduceCtorEq, Nat.reduceMul, TEP, tis, ens, nts, Try.results10]
      refine awp_loop (fun m f h => ∃ left out, left.length = m ∧ (out ++ left).Perm ks ∧ (f.t 12 = .nils ∨ out ≠ []) ∧ f.t 31 = .lp 0 0 ∧ f.d = [] ∧ ∃ cur, RowV 1 (out.map vi) (f.t 12) [.misc (.miter (left.map vi) (heldT left) cur)] h) ks.length ⟨ks, [], rfl, by simp, .inl rfl, rfl, rfl, none, .inl ⟨rfl, rfl, rfl⟩⟩ ?_
      rintro m f h ⟨left, out, hm, hperm, hne, h31, hd, cur, hrow⟩
      rcases hrow with ⟨ho, hv, rfl⟩ | ⟨hv, rfl⟩
      · have ho : out = [] := by simpa using ho
        subst ho
        refine vc_ok mixed _ _ _ _ ?_
        simp only [sa0.down, sa1.down, sa2.down, sa3.down, sa4.down, sb0.down, sb1.down, sb2.down, sb3.down, ↓reduceIte, Nat.reduceEqDiff, Nat.reduceLT, Nat.reduceLeDiff, Nat.reduceAdd, Nat.reduceSub, Int.reduceToNat, Nat.reduceDiv, Int.reduceLT, Int.reduceLE, Int.reduceNeg, Int.reduceBEq, Int.reduceBNe, Int.reduceAdd, Int.reduceSub, Nat.reduceBEq, reduceCtorEq, Nat.reduceMul, TEP, tis, ens, nts, Try.results10, h31, hd, hv]
        refine vcNextM_ints (fun he => ?_) (fun i hi => ?_)
        · subst he
          have hnil : ks = [] := by
            have := hperm.length_eq
            exact List.length_eq_zero_iff.1 (by simpa using this.symm)
          subst hnil
          simp only [sa0.down, sa1.down, sa2.down, sa3.down, sa4.down, sb0.down, sb1.down, sb2.down, sb3.down, ↓reduceIte, Nat.reduceEqDiff, Nat.reduceLT, Nat.reduceLeDiff, Nat.reduceAdd, Nat.reduceSub, Int.reduceToNat, Nat.reduceDiv, Int.reduceLT, Int.reduceLE, Int.reduceNeg, Int.reduceBEq, Int.reduceBNe, Int.reduceAdd, Int.reduceSub, Nat.reduceBEq, reduceCtorEq, Nat.reduceMul, TEP, tis, ens, nts, Try.results10, h31, hd, hv]
          refine sort_none _ _ ?_
          have hcn : canon (Der l given) vars.toNat = [] := (canon_of q7 q8 hfin (List.Perm.refl _) List.Pairwise.nil).symm
          rw [hcn]
          simp only [sa0.down, sa1.down, sa2.down, sa3.down, sa4.down, sb0.down, sb1.down, sb2.down, sb3.down, ↓reduceIte, Nat.reduceEqDiff, Nat.reduceLT, Nat.reduceLeDiff, Nat.reduceAdd, Nat.reduceSub, Int.reduceToNat, Nat.reduceDiv, Int.reduceLT, Int.reduceLE, Int.reduceNeg, Int.reduceBEq, Int.reduceBNe, Int.reduceAdd, Int.reduceSub, Nat.reduceBEq, reduceCtorEq, Nat.reduceMul, TEP, tis, ens, nts, Try.results10, h31, hd, hv]
          exact Reif.tup (Reifs.cons Reif.nils (Reifs.dat rfl))
        · simp only [sa0.down, sa1.down, sa2.down, sa3.down, sa4.down, sb0.down, sb1.down, sb2.down, sb3.down, ↓reduceIte, Nat.reduceEqDiff, Nat.reduceLT, Nat.reduceLeDiff, Nat.reduceAdd, Nat.reduceSub, Int.reduceToNat, Nat.reduceDiv, Int.reduceLT, Int.reduceLE, Int.reduceNeg, Int.reduceBEq, Int.reduceBNe, Int.reduceAdd, Int.reduceSub, Nat.reduceBEq, reduceCtorEq, Nat.reduceMul, TEP, tis, ens, nts, Try.results10, h31, hd, hv]
          refine ⟨⟨rfl, by decide⟩, by omega, .inl ⟨m - 1, by omega, left.eraseIdx i, [left[i]], by rw [List.length_eraseIdx_of_lt hi]; omega, (erase_perm hi).trans (by simpa using hperm), .inr (by simp), h31, hd, _, .inr ⟨rfl, rfl⟩⟩⟩
      · have hne : out ≠ [] := by
          rcases hne with h | h
          · rw [hv] at h; cases h
          · exact h
        refine vc_ok mixed _ _ _ _ ?_
        simp only [sa0.down, sa1.down, sa2.down, sa3.down, sa4.down, sb0.down, sb1.down, sb2.down, sb3.down, ↓reduceIte, Nat.reduceEqDiff, Nat.reduceLT, Nat.reduceLeDiff, Nat.reduceAdd, Nat.reduceSub, Int.reduceToNat, Nat.reduceDiv, Int.reduceLT, Int.reduceLE, Int.reduceNeg, Int.reduceBEq, Int.reduceBNe, Int.reduceAdd, Int.reduceSub, Nat.reduceBEq, reduceCtorEq, Nat.reduceMul, TEP, tis, ens, nts, Try.results10, h31, hd, hv]
        refine vcNextM_ints (fun he => ?_) (fun i hi => ?_)
        · subst he
          rw [List.append_nil] at hperm
          · have hol := hperm.length_eq
            simp only [sa0.down, sa1.down, sa2.down, sa3.down, sa4.down, sb0.down, sb1.down, sb2.down, sb3.down, ↓reduceIte, Nat.reduceEqDiff, Nat.reduceLT, Nat.reduceLeDiff, Nat.reduceAdd, Nat.reduceSub, Int.reduceToNat, Nat.reduceDiv, Int.reduceLT, Int.reduceLE, Int.reduceNeg, Int.reduceBEq, Int.reduceBNe, Int.reduceAdd, Int.reduceSub, Nat.reduceBEq, reduceCtorEq, Nat.reduceMul, TEP, tis, ens, nts, Try.results10, h31, hd, hv]
            refine sort_calls out (fun a ha => by have := hfin.rng a (hperm.mem_iff.1 ha); exact ⟨this.1, this.2.1⟩) hne (by omega) 1 out.length _ rfl _ ?_
            intro c' hp hs
            have hcn := canon_of q7 q8 hfin (hp.trans hperm) hs
            have hcl : c'.length = out.length := hp.length_eq
            rw [← hcn]
            simp only [sa0.down, sa1.down, sa2.down, sa3.down, sa4.down, sb0.down, sb1.down, sb2.down, sb3.down, ↓reduceIte, Nat.reduceEqDiff, Nat.reduceLT, Nat.reduceLeDiff, Nat.reduceAdd, Nat.reduceSub, Int.reduceToNat, Nat.reduceDiv, Int.reduceLT, Int.reduceLE, Int.reduceNeg, Int.reduceBEq, Int.reduceBNe, Int.reduceAdd, Int.reduceSub, Nat.reduceBEq, reduceCtorEq, Nat.reduceMul, TEP, tis, ens, nts, Try.results10, h31, hd, hv]
            exact Reif.tup (Reifs.cons (Reif.ls rfl (Reifs.dat (dats_vi _)) (fit_vi _) (flat_vi _) (by simpa using hcl.symm)) (Reifs.dat rfl))
        · have hol := hperm.length_eq
          simp only [List.length_append] at hol
          simp only [sa0.down, sa1.down, sa2.down, sa3.down, sa4.down, sb0.down, sb1.down, sb2.down, sb3.down, ↓reduceIte, Nat.reduceEqDiff, Nat.reduceLT, Nat.reduceLeDiff, Nat.reduceAdd, Nat.reduceSub, Int.reduceToNat, Nat.reduceDiv, Int.reduceLT, Int.reduceLE, Int.reduceNeg, Int.reduceBEq, Int.reduceBNe, Int.reduceAdd, Int.reduceSub, Nat.reduceBEq, reduceCtorEq, Nat.reduceMul, TEP, tis, ens, nts, Try.results10, h31, hd, hv]
          have hp2 : ((out ++ [left[i]]) ++ left.eraseIdx i).Perm ks := by
            rw [List.append_assoc, List.singleton_append]
            exact ((erase_perm hi).append_left out).trans hperm
          exact ⟨⟨rfl, by decide⟩, ⟨by omega, by omega, by omega⟩, .inl ⟨m - 1, by omega, left.eraseIdx i, out ++ [left[i]], by rw [List.length_eraseIdx_of_lt hi]; omega, hp2, .inr (by simp), by simp only [sa0.down, sa1.down, sa2.down, sa3.down, sa4.down, sb0.down, sb1.down, sb2.down, sb3.down, ↓reduceIte, Nat.reduceEqDiff, Nat.reduceLT, Nat.reduceLeDiff, Nat.reduceAdd, Nat.reduceSub, Int.reduceToNat, Nat.reduceDiv, Int.reduceLT, Int.reduceLE, Int.reduceNeg, Int.reduceBEq, Int.reduceBNe, Int.reduceAdd, Int.reduceSub, Nat.reduceBEq, reduceCtorEq, Nat.reduceMul, TEP, tis, ens, nts, Try.results10, h31], hd, _, .inr ⟨by simp only [sa0.down, sa1.down, sa2.down, sa3.down, sa4.down, sb0.down, sb1.down, sb2.down, sb3.down, ↓reduceIte, Nat.reduceEqDiff, Nat.reduceLT, Nat.reduceLeDiff, Nat.reduceAdd, Nat.reduceSub, Int.reduceToNat, Nat.reduceDiv, Int.reduceLT, Int.reduceLE, Int.reduceNeg, Int.reduceBEq, Int.reduceBNe, Int.reduceAdd, Int.reduceSub, Nat.reduceBEq, reduceCtorEq, Nat.reduceMul, TEP, tis, ens, nts, Try.results10, List.length_singleton], by simp only [sa0.down, sa1.down, sa2.down, sa3.down, sa4.down, sb0.down, sb1.down, sb2.down, sb3.down, ↓reduceIte, Nat.reduceEqDiff, Nat.reduceLT, Nat.reduceLeDiff, Nat.reduceAdd, Nat.reduceSub, Int.reduceToNat, Nat.reduceDiv, Int.reduceLT, Int.reduceLE, Int.reduceNeg, Int.reduceBEq, Int.reduceBNe, Int.reduceAdd, Int.reduceSub, Nat.reduceBEq, reduceCtorEq, Nat.reduceMul, TEP, tis, ens, nts, Try.results10, drops_vi]; rfl⟩⟩⟩
    · have h0 : propV l vars given = ([], true, 0) := by unfold propV; rw [if_neg (by simp [hq]), if_pos hbad]
      rw [h0]
      simp only [sa0.down, sa1.down, sa2.down, sa3.down, sa4.down, sb0.down, sb1.down, sb2.down, sb3.down, ↓reduceIte, Nat.reduceEqDiff, Nat.reduceLT, Nat.reduceLeDiff, Nat.reduceAdd, Nat.reduceSub, Int.reduceToNat, Nat.reduceDiv, Int.reduceLT, Int.reduceLE, Int.reduceNeg, Int.reduceBEq, Int.reduceBNe, Int.reduceAdd, Int.reduceSub, Nat.reduceBEq, reduceCtorEq, Nat.reduceMul, TEP, tis, ens, nts, Try.results10]
      exact Reif.tup (Reifs.cons Reif.nils (Reifs.dat rfl))

end Go.Proofs.Ytegnjoonhabicaa
