/- Functions of the program, part 15. -/
import Derived.Test.YtajcfppemkdomaaF13
import Derived.Test.YtajcfppemkdomaaF14
set_option linter.unusedVariables false
set_option linter.unusedSimpArgs false
set_option linter.unnecessarySimpa false
namespace Go.Proofs.Ytajcfppemkdomaa
open Go Go.Proofs Go.Abs

theorem rupV_ok {l : List Cl} {n : Nat} {c : Cl} (h1 : chk l n = 0) (h2 : ∀ a ∈ c, lit n a = true) (h3 : Bad l (negs c)) : rupV l n c = (true, 0) := by
  have ha : ask l n [c] = 0 := by
    unfold ask
    rw [if_neg (by simp [h1]), if_pos (by simpa using h2)]
  unfold rupV
  rw [if_neg (by simp [ha]), badB_true h3]

theorem chk_zero {l : List Cl} {n : Nat} (h1 : n ≤ 20000) (h2 : l.length ≤ 100000) (h3 : ∀ c ∈ l, ∀ a ∈ c, lit n a = true) : chk l n = 0 := by
  unfold chk
  rw [if_neg (by simp; omega), if_pos (List.all_eq_true.2 fun c hc => List.all_eq_true.2 (h3 c hc))]

set_option maxHeartbeats 2000000 in
theorem ev_proves_ok (l ln : List Cl) (n : Nat) (e : Bool) (hcl : ∀ c ∈ l, c.length ≤ 1000000) (hcn : ∀ c ∈ ln, c.length ≤ 1000000) (hn : l.length ≤ 1000) (hn2 : ln.length ≤ 1000) (hv : n ≤ 20000)
    (hl : ∀ c ∈ l, ∀ a ∈ c, lit n a = true) (hs : ∀ c ∈ ln, ∀ a ∈ c, lit n a = true)
    (hb : ∀ m (hm : m < ln.length), Bad (l ++ ln.take m) (negs ln[m])) (he : e = true → Bad (l ++ ln) []) :
    Ev TE 18 [cls l, vi n, cls ln, .bool e] (.bool true) := by
  have hM : maxLen = 9223372036854775807 := rfl
  refine Ev.of_awp Try.func18 rfl (by simp [nts]) (vc_ok mixed _ _ _ _ ?_)
  simp only [sz.down, ↓reduceIte, Nat.reduceEqDiff, Nat.reduceLT, reduceCtorEq, TEP, tis, nts, Try.results18]
  refine ⟨allOne_cls _, ⟨by omega, by omega⟩, ?_⟩
  refine awp_loop (fun m f h => ∃ (i : Nat) (all : List Cl), m + i = ln.length ∧ all = l ++ ln.take i ∧ f.t 1 = vi n ∧ f.t 2 = cls ln ∧ f.t 3 = .bool e ∧ f.t 9 = .ls 0 1 0 all.length all.length ∧ f.t 10 = vi i ∧ f.d = [] ∧ h = [.cells (all.map fun c => ints c)]) ln.length ⟨0, l, by simp, by simp, rfl, rfl, rfl, rfl, rfl, rfl, rfl⟩ ?_
  rintro m f h ⟨i, all, hm, hal, h1, h2, h3, h9, h10, hd, rfl⟩
  have hlen : all.length = l.length + i := by rw [hal]; simp; omega
  have hl2 : ∀ c ∈ all, ∀ a ∈ c, lit n a = true := fun c hc => by
    rw [hal] at hc
    rcases List.mem_append.1 hc with hc | hc
    · exact hl c hc
    · exact hs c (List.mem_of_mem_take hc)
  have hc2 : ∀ c ∈ all, c.length ≤ 1000000 := fun c hc => by
    rw [hal] at hc
    rcases List.mem_append.1 hc with hc | hc
    · exact hcl c hc
    · exact hcn c (List.mem_of_mem_take hc)
  have hk : chk all n = 0 := chk_zero (by omega) (by omega) hl2
  have hrf : Reif TE [.cells (all.map fun c => ints c)] (.ls 0 1 0 all.length all.length) (cls all) := Reif.ls rfl (Reifs.dat (dats_cls _)) (fit_cls _) (flat_cls _) (by simp)
  refine vc_ok mixed _ _ _ _ ?_
  simp only [sz.down, ↓reduceIte, Nat.reduceEqDiff, Nat.reduceLT, TEP, tis, h2, h10]
  refine vcB.mk (fun hlt => ?_) (fun hlt => ?_)
  · simp only [decide_eq_true_eq, Int.ofNat_lt] at hlt
    have hal2 : all ++ [ln[i]] = l ++ ln.take (i + 1) := by rw [hal, List.take_add_one, List.append_assoc]; simp [hlt]
    have hru := ev_rRup all n ln[i] hc2 (hcn _ (List.getElem_mem hlt))
    have hbi := hb i hlt
    rw [← hal] at hbi
    rw [rupV_ok hk (hs _ (List.getElem_mem hlt)) hbi] at hru
    simp only [sz.down, ↓reduceIte, Nat.reduceEqDiff, Nat.reduceLT, TEP, tis, ens, h1, h2, h9, h10, getC hlt]
    refine ⟨⟨by omega, by omega⟩, ACalls.lend hru (Reifs.cons hrf (Reifs.cons (Reif.dat rfl) (Reifs.cons (Reif.dat (by simp only [V.dat])) Reifs.nil))) rfl ?_⟩
    simp only [sz.down, ↓reduceIte, Nat.reduceEqDiff, Nat.reduceLT, Nat.reduceAdd, Int.reduceBNe, reduceCtorEq, Nat.reduceMul, TEP, tis, h2, h9, h10, hd, getC hlt, wrap_succ (show i < maxLen by omega)]
    refine ⟨⟨by omega, by omega⟩, ⟨rfl, by decide⟩, ⟨by omega, by omega, by omega⟩, .inl ⟨m - 1, by omega, i + 1, all ++ [ln[i]], by omega, hal2, by simp only [sz.down, ↓reduceIte, Nat.reduceEqDiff, h1], by simp only [sz.down, ↓reduceIte, Nat.reduceEqDiff, h2], by simp only [sz.down, ↓reduceIte, Nat.reduceEqDiff, h3], by simp only [sz.down, ↓reduceIte, Nat.reduceEqDiff], by simp only [sz.down, ↓reduceIte], by simp only [sz.down, hd], by simp only [sz.down, drops_cls]⟩⟩
  · simp only [decide_eq_false_iff_not, Int.ofNat_lt] at hlt
    have hi : i = ln.length := by omega
    subst hi
    rw [List.take_length] at hal
    cases e with
    | true =>
      have hru := ev_rRup all n [] hc2 (by simp)
      have hbe := he rfl
      rw [← hal] at hbe
      rw [rupV_ok (c := []) hk (by simp) hbe] at hru
      simp only [sz.down, ↓reduceIte, Nat.reduceEqDiff, Nat.reduceLT, TEP, ens, h1, h9]
      refine ACalls.lend hru (Reifs.cons hrf (Reifs.cons (Reif.dat rfl) (Reifs.cons Reif.nils Reifs.nil))) rfl ?_
      simp only [sz.down, ↓reduceIte, Nat.reduceEqDiff, Nat.reduceLT, Nat.reduceAdd, reduceCtorEq, TEP, h3, hd]
      exact Reif.eq rfl rfl
    | false =>
      have hru := ev_rRup all n [] hc2 (by simp)
      simp only [sz.down, ↓reduceIte, Nat.reduceEqDiff, Nat.reduceLT, TEP, ens, h1, h9]
      refine ACalls.lend hru (Reifs.cons hrf (Reifs.cons (Reif.dat rfl) (Reifs.cons Reif.nils Reifs.nil))) rfl ?_
      simp only [sz.down, ↓reduceIte, Nat.reduceEqDiff, Nat.reduceLT, Nat.reduceAdd, reduceCtorEq, TEP, h3, hd]
      exact Reif.eq rfl rfl

end Go.Proofs.Ytajcfppemkdomaa

set_option linter.unusedVariables false
set_option linter.unusedSimpArgs false
set_option linter.unnecessarySimpa false
namespace Go.Proofs.Ytajcfppemkdomaa
open Go Go.Proofs Go.Abs

theorem pvMin60 (b : Int) : pvMin [vi b, vi 60] = (True, vi (min b 60)) := by
  simp only [pvMin]
  split
  · rw [show min b 60 = 60 by omega]
  · rw [show min b 60 = b by omega]

theorem lit_of {n : Nat} {a : Int} (h0 : a ≠ 0) (h1 : a.natAbs ≤ n) : lit n a = true := by
  simp only [lit, Bool.and_eq_true, decide_eq_true_eq, ne_eq]
  omega

theorem nodup_len : ∀ (n : Nat) (l : List Nat), l.Nodup → (∀ x ∈ l, x < n) → l.length ≤ n
  | 0, l, _, h => by
    cases l with
    | nil => simp
    | cons x l => have := h x List.mem_cons_self; omega
  | n + 1, l, hn, h => by
    by_cases hm : n ∈ l
    · have h1 := nodup_len n (l.erase n) (hn.erase n) (fun x hx => by
        have h2 := (hn.mem_erase_iff).1 hx
        have := h x h2.2
        have := h2.1
        omega)
      rw [List.length_erase_of_mem hm] at h1
      omega
    · have := nodup_len n l hn (fun x hx => by
        have := h x hx
        have : x ≠ n := fun he => hm (he ▸ hx)
        omega)
      omega

set_option maxHeartbeats 2000000 in
theorem ev_SolveProves (l : List Cl) (vars budget : Int) : Ev TE 6 [cls l, vi vars, vi budget] (.bool true) := by
  have hM : maxLen = 9223372036854775807 := rfl
  refine Ev.of_awp Try.func6 rfl (by simp [nts]) (vc_ok mixed _ _ _ _ ?_)
  simp only [sz.down, Nat.reduceLT, TEP, ens, nts, Try.results6]
  refine ACalls.ev ev_works rfl ?_
  simp only [sz.down, ↓reduceIte, Nat.reduceLT, reduceCtorEq, TEP, ens]
  refine ACalls.ev (ev_few l 60) (by simp only [V.dats, V.dat, Bool.and_self]) ?_
  simp only [sz.down, ↓reduceIte, Nat.reduceEqDiff, Nat.reduceLT, TEP]
  refine vcB.mk (fun hc => ?_) (fun hc => ?_)
  · simp only [sz.down, ↓reduceIte, Nat.reduceEqDiff, Nat.reduceLT, TEP]
    exact Reif.dat rfl
  · have hf : fewC 60 l = true := by
      cases h : fewC 60 l
      · simp [h] at hc
      · rfl
    have hv : vars ≤ 10 := by
      simp [hf] at hc
      omega
    obtain ⟨f1, f2⟩ := few_len21 hf
    simp only [sz.down, ↓reduceIte, Nat.reduceEqDiff, Nat.reduceLT, reduceCtorEq, TEP, ens, pvMin60]
    refine ACalls.evR (solve_few l vars (min budget 60) f1 (fun c h => by have := f2 c h; omega) (by omega)) (by simp only [V.dats, V.dat, Bool.and_self]) fun r hr => ?_
    rcases hr with ⟨hz, rfl⟩ | ⟨hz, res, vals, ln, rfl, ok⟩
    · have hz2 : (chk l vars != 0) = true := by simpa using hz
      simp only [sz.down, ↓reduceIte, Nat.reduceEqDiff, Nat.reduceLT, Nat.reduceAdd, TEP, tis, hz2]
      exact Reif.eq rfl rfl
    · obtain ⟨v1, v2, v3, v4⟩ := chk_vars hz
      obtain ⟨n, rfl⟩ : ∃ n : Nat, vars = n := ⟨vars.toNat, by omega⟩
      rw [Int.toNat_natCast] at ok
      obtain ⟨o1, o2, o3, o4, o5⟩ := ok
      have hs : ∀ c ∈ ln, ∀ a ∈ c, lit n a = true := fun c hc a ha => lit_of ((o3 c hc).2.2 a ha).1 ((o3 c hc).2.2 a ha).2
      have hcn : ∀ c ∈ ln, c.length ≤ 1000000 := fun c hc => by
        have h1 := nodup_len (n + 1) (c.map Int.natAbs) (o3 c hc).2.1 (fun x hx => by
          obtain ⟨a, ha, rfl⟩ := List.mem_map.1 hx
          have := ((o3 c hc).2.2 a ha).2
          omega)
        rw [List.length_map] at h1
        omega
      have hln : ln.length ≤ 60 := by omega
      have hend : (decide (res = 0)) = true → Bad (l ++ ln) [] := fun h => by
        have h := of_decide_eq_true h
        rcases o5 with ⟨_, _, hb⟩ | ⟨e, _⟩ | ⟨e, _⟩
        · exact hb
        · omega
        · omega
      have hp := ev_proves_ok l ln n (res == 0) (fun c h => by have := f2 c h; omega) hcn (by omega) (by omega) (by omega) v4 hs o2 (fun h => hend (by simpa using h))
      have hch := ev_Check l n ln (by omega) hcn
      have hask : ask l n ln = 0 := by
        unfold ask
        rw [if_neg (by simp [hz]), if_pos (List.all_eq_true.2 fun c hc => List.all_eq_true.2 (hs c hc))]
      have hlead : leadV l n ln = (leadF l ln, 0) := by unfold leadV; rw [if_neg (by simp [hask])]
      rw [hlead] at hch
      simp only [sz.down, ↓reduceIte, Nat.reduceEqDiff, Nat.reduceLT, Nat.reduceLeDiff, Nat.reduceAdd, Int.reduceBNe, reduceCtorEq, TEP, tis, ens]
      refine ACalls.ev hp (by simp only [V.dats, V.dat, Bool.and_self]) ?_
      simp only [sz.down, ↓reduceIte, Nat.reduceEqDiff, Nat.reduceLT, Nat.reduceAdd, reduceCtorEq, TEP, tis, ens]
      refine ACalls.ev hch (by simp only [V.dats, V.dat, Bool.and_self]) ?_
      simp only [sz.down, ↓reduceIte, Nat.reduceEqDiff, Nat.reduceLT, Nat.reduceLeDiff, Nat.reduceAdd, reduceCtorEq, TEP, tis]
      refine Reif.eq rfl ?_
      by_cases hr : res = 0
      · have hL := leadF_ok o2 (hend (by simpa using hr))
        simp [hL]
      · simp [hr]

end Go.Proofs.Ytajcfppemkdomaa
