/- Functions of the program, part 07. -/
import Derived.Test.YtboolnpmlmgpkaaGreatDoorF06
import Derived.Test.YtboolnpmlmgpkaaGreatDoorA10
set_option linter.unusedVariables false
set_option maxRecDepth 20000
set_option linter.unusedSimpArgs false
set_option linter.unnecessarySimpa false
namespace Go.Proofs.YtboolnpmlmgpkaaGreatDoor
open Go Go.Proofs Go.Abs

theorem datI {c : Cl} : (ints c).dat = true := by simp only [V.dat]
theorem datCl {l : List Cl} : (cls l).dat = true := by simp only [V.dat]
theorem ev_bools8 (a b : List Bool) : Ev TE 46 [bools a, bools b] (.bool (a == b)) := by
  refine Ev.bnd fun hb => ?_
  have hlen := bools_len hb
  refine Ev.of_awp Tryz.func46 rfl (by simp [nts]) (vc_ok mixed _ _ _ _ ?_)
  simp only [sz.down, ↓reduceIte, Nat.reduceEqDiff, Nat.reduceLT, reduceCtorEq, TEP, tis, nts, Tryz.results46]
  refine vcB.mk (fun hc => ?_) (fun hc => ?_)
  · simp only [sz.down, ↓reduceIte, Nat.reduceLT, TEP]
    refine Reif.eq rfl ?_
    simp only [bne_iff_ne, ne_eq, Int.natCast_inj] at hc
    have : ¬ a = b := fun h => hc (by rw [h])
    simp [this]
  · have hl : a.length = b.length := by simpa [Int.natCast_inj] using hc
    simp only [sz.down, Nat.reduceLT, TEP]
    refine awp_loop (fun m f h => ∃ i, m + i = a.length ∧ f.t 0 = bools a ∧ f.t 1 = bools b ∧ f.t 5 = .int .i64 (i : Int) ∧ f.d = [] ∧ a.take i = b.take i) a.length ⟨0, by simp, rfl, rfl, rfl, rfl, by simp⟩ ?_
    rintro m f h ⟨i, hm, h0, h1, h5, hd, hall⟩
    refine vc_ok mixed _ _ _ _ ?_
    simp only [sz.down, ↓reduceIte, Nat.reduceEqDiff, Nat.reduceLT, reduceCtorEq, TEP, tis, h0, h5]
    refine vcB.mk (fun hc => ?_) (fun hc => ?_)
    · simp only [decide_eq_true_eq, Int.ofNat_lt] at hc
      have hc2 : i < b.length := by omega
      simp only [sz.down, ↓reduceIte, Nat.reduceEqDiff, Nat.reduceLT, reduceCtorEq, TEP, tis, h0, h1, h5, getB hc, getB hc2]
      refine ⟨by decide +kernel, ⟨by omega, by omega⟩, ⟨by omega, by omega⟩, vcB.mk (fun hc => ?_) (fun hc => ?_)⟩
      · simp only [sz.down, ↓reduceIte, Nat.reduceLT, TEP, hd]
        refine Reif.eq rfl ?_
        have : ¬ a = b := fun h => by subst h; simp at hc
        simp [this]
      · simp only [sz.down, ↓reduceIte, Nat.reduceEqDiff, Nat.reduceLT, TEP, h5, wrap_succ (show i < maxLen by omega)]
        exact .inl ⟨m - 1, by omega, i + 1, by omega, h0, h1, rfl, hd, take_eq hall (by omega) (by omega) (by simpa using hc)⟩
    · simp only [decide_eq_false_iff_not, Int.ofNat_lt] at hc
      simp only [sz.down, ↓reduceIte, Nat.reduceLT, TEP, hd]
      refine Reif.eq rfl ?_
      rw [List.take_of_length_le (by omega), List.take_of_length_le (by omega)] at hall
      simp [hall]


theorem ev_eqI (a b : List Int) : Ev TE 78 [ints a, ints b] (.bool (a == b)) := by
  refine Ev.bnd fun hb => ?_
  have hlen := ints_len hb
  refine Ev.of_awp Tryz.func78 rfl (by simp [nts]) (vc_ok mixed _ _ _ _ ?_)
  simp only [sz.down, ↓reduceIte, Nat.reduceEqDiff, Nat.reduceLT, reduceCtorEq, TEP, tis, nts, Tryz.results78]
  refine vcB.mk (fun hc => ?_) (fun hc => ?_)
  · simp only [sz.down, ↓reduceIte, Nat.reduceLT, TEP]
    refine Reif.eq rfl ?_
    simp only [bne_iff_ne, ne_eq, Int.natCast_inj] at hc
    have : ¬ a = b := fun h => hc (by rw [h])
    simp [this]
  · have hl : a.length = b.length := by simpa [Int.natCast_inj] using hc
    simp only [sz.down, ↓reduceIte, Nat.reduceLT, reduceCtorEq, TEP, tis]
    refine awp_loop (fun m f h => ∃ i, m + i = a.length ∧ f.t 0 = ints a ∧ f.t 1 = ints b ∧ f.t 12 = .int .i64 (a.length : Int) ∧ f.t 13 = .int .i64 (i : Int) ∧ f.d = [] ∧ a.take i = b.take i) a.length ⟨0, by simp, rfl, rfl, rfl, rfl, rfl, by simp⟩ ?_
    rintro m f h ⟨i, hm, h0, h1, h12, h13, hd, hall⟩
    refine vc_ok mixed _ _ _ _ ?_
    simp only [sz.down, ↓reduceIte, Nat.reduceLT, TEP, h12, h13]
    refine vcB.mk (fun hc => ?_) (fun hc => ?_)
    · simp only [decide_eq_true_eq, Int.ofNat_lt] at hc
      have hc2 : i < b.length := by omega
      simp only [sz.down, ↓reduceIte, Nat.reduceEqDiff, Nat.reduceLT, reduceCtorEq, TEP, tis, h0, h1, h13, getI hc, getI hc2]
      refine ⟨by decide +kernel, ⟨by omega, by omega⟩, ⟨by omega, by omega⟩, vcB.mk (fun hc => ?_) (fun hc => ?_)⟩
      · simp only [sz.down, ↓reduceIte, Nat.reduceLT, TEP, hd]
        refine Reif.eq rfl ?_
        have : ¬ a = b := fun h => by subst h; simp at hc
        simp [this]
      · simp only [sz.down, ↓reduceIte, Nat.reduceEqDiff, Nat.reduceLT, TEP, h13, wrap_succ (show i < maxLen by omega)]
        exact .inl ⟨m - 1, by omega, i + 1, by omega, h0, h1, h12, rfl, hd, take_eq hall (by omega) (by omega) (by simpa using hc)⟩
    · simp only [decide_eq_false_iff_not, Int.ofNat_lt] at hc
      simp only [sz.down, ↓reduceIte, Nat.reduceLT, TEP, hd]
      refine Reif.eq rfl ?_
      rw [List.take_of_length_le (by omega), List.take_of_length_le (by omega)] at hall
      simp [hall]


theorem ev_eqF (a b : List Cl) : Ev TE 124 [cls a, cls b, .fn (.func 78) [] []] (.bool (a == b)) := by
  refine Ev.bnd fun hb => ?_
  have hlen := cls_len hb
  refine Ev.of_awp Tryz.func124 rfl (by simp [nts]) (vc_ok mixed _ _ _ _ ?_)
  simp only [sz.down, ↓reduceIte, Nat.reduceEqDiff, Nat.reduceLT, reduceCtorEq, TEP, tis, nts, Tryz.results124]
  refine vcB.mk (fun hc => ?_) (fun hc => ?_)
  · simp only [sz.down, ↓reduceIte, Nat.reduceLT, TEP]
    refine Reif.eq rfl ?_
    simp only [bne_iff_ne, ne_eq, Int.natCast_inj] at hc
    have : ¬ a = b := fun h => hc (by rw [h])
    simp [this]
  · have hl : a.length = b.length := by simpa [Int.natCast_inj] using hc
    simp only [sz.down, ↓reduceIte, Nat.reduceLT, reduceCtorEq, TEP, tis]
    refine awp_loop (fun m f h => ∃ i, m + i = a.length ∧ f.t 0 = cls a ∧ f.t 1 = cls b ∧ f.t 2 = .fn (.func 78) [] [] ∧ f.t 15 = cls a ∧ f.t 16 = .int .i64 (a.length : Int) ∧ f.t 17 = .int .i64 (i : Int) ∧ f.d = [] ∧ a.take i = b.take i) a.length ⟨0, by simp, rfl, rfl, rfl, rfl, rfl, rfl, rfl, by simp⟩ ?_
    rintro m f h ⟨i, hm, h0, h1, h2, h15, h16, h17, hd, hall⟩
    refine vc_ok mixed _ _ _ _ ?_
    simp only [sz.down, ↓reduceIte, Nat.reduceLT, TEP, h16, h17]
    refine vcB.mk (fun hc => ?_) (fun hc => ?_)
    · simp only [decide_eq_true_eq, Int.ofNat_lt] at hc
      have hc2 : i < b.length := by omega
      simp only [sz.down, ↓reduceIte, Nat.reduceEqDiff, Nat.reduceLT, TEP, tis, ens, h1, h2, h15, h17, getC hc, getC hc2]
      refine ⟨⟨by omega, by omega⟩, ⟨by omega, by omega⟩, ACalls.ev (ev_eqI a[i] b[i]) (by simp only [V.dats, datI, Bool.and_self]) ?_⟩
      by_cases he : a[i] = b[i]
      · have eb : (a[i] == b[i]) = true := by simpa using he
        simp only [sz.down, ↓reduceIte, Nat.reduceEqDiff, Nat.reduceLT, TEP, eb, h17, wrap_succ (show i < maxLen by omega)]
        exact .inl ⟨m - 1, by omega, i + 1, by omega, h0, h1, h2, h15, h16, rfl, hd, take_eq hall (by omega) (by omega) he⟩
      · have eb : (a[i] == b[i]) = false := by simpa using he
        simp only [sz.down, ↓reduceIte, Nat.reduceLT, TEP, eb, hd]
        refine Reif.eq rfl ?_
        have : ¬ a = b := fun h => by subst h; exact he rfl
        simp [this]
    · simp only [decide_eq_false_iff_not, Int.ofNat_lt] at hc
      simp only [sz.down, ↓reduceIte, Nat.reduceLT, TEP, hd]
      refine Reif.eq rfl ?_
      rw [List.take_of_length_le (by omega), List.take_of_length_le (by omega)] at hall
      simp [hall]

/-- An answer. -/
structure Ans where
  res : Int
  vals : List Bool
  conf : Int
  ln : List Cl
def Ans.v (a : Ans) : V := .agg [vi a.res, bools a.vals, vi a.conf, cls a.ln]
def sameB (a b : Ans) : Bool := (a.res == b.res) && ((a.conf == b.conf) && ((a.vals == b.vals) && (a.ln == b.ln)))


def Wi.same (w u : Wi) : Bool := (w.bad == u.bad) && ((w.st == u.st) && (w.steps == u.steps))
theorem ev_wsame (w u : Wi) : Ev TE 50 [w.v, u.v] (.bool (w.same u)) := by
  unfold Wi.v Wi.same
  refine Ev.of_awp Tryz.func50 rfl (by simp [nts]) (vc_ok mixed _ _ _ _ ?_)
  cases h1 : (w.bad == u.bad) with
  | false =>
    simp only [sz.down, ↓reduceIte, Nat.reduceEqDiff, Nat.reduceLT, Nat.reduceLeDiff, Nat.reduceAdd, TEP, tis, nts, Tryz.results50, h1]
    refine ⟨.bool true, ?_⟩
    simp only [sz.down, ↓reduceIte, Nat.reduceEqDiff, Nat.reduceLT, TEP]
    refine ⟨.bool true, ?_⟩
    simp only [sz.down]
    exact Reif.dat rfl
  | true =>
    simp only [sz.down, ↓reduceIte, Nat.reduceEqDiff, Nat.reduceLT, Nat.reduceLeDiff, Nat.reduceAdd, TEP, tis, ens, nts, Tryz.results50, h1]
    refine ACalls.ev (ev_eqI _ _) (by simp only [V.dats, datI, Bool.and_self]) ?_
    cases h2 : (w.st == u.st) with
    | false =>
      simp only [sz.down, ↓reduceIte, Nat.reduceEqDiff, Nat.reduceLT, Nat.reduceAdd, reduceCtorEq, TEP, tis]
      refine ⟨.bool true, ?_⟩
      simp only [sz.down]
      exact Reif.dat rfl
    | true =>
      simp only [sz.down, ↓reduceIte, Nat.reduceEqDiff, Nat.reduceLT, Nat.reduceAdd, reduceCtorEq, TEP, tis, ens]
      refine ACalls.ev (ev_eqF _ _) (by simp only [V.dats, V.dat, Bool.and_self]) ?_
      simp only [sz.down, ↓reduceIte, Nat.reduceEqDiff, Nat.reduceLT, reduceCtorEq, TEP]
      exact Reif.dat rfl

end Go.Proofs.YtboolnpmlmgpkaaGreatDoor

set_option linter.unusedVariables false
set_option maxRecDepth 20000
set_option linter.unusedSimpArgs false
set_option linter.unnecessarySimpa false
namespace Go.Proofs.YtboolnpmlmgpkaaGreatDoor
open Go Go.Proofs Go.Abs

/-! ### Sorting no texts -/
theorem conv_u64u8 (h : H) (n : Int) : pvConv P h 267 5 (.int .u64 n) = (True, .int .u8 (IntKind.u8.wrap n)) := by
  unfold pvConv
  simp only [sz.down, tis]
theorem conv_u8i (h : H) (n : Int) : pvConv P h 5 3 (.int .u8 n) = (True, .int .i64 (IntKind.i64.wrap n)) := by
  unfold pvConv
  simp only [sz.down, tis]
theorem conv_iu (h : H) (n : Int) : pvConv P h 3 192 (.int .i64 n) = (True, .int .u64 (IntKind.u64.wrap n)) := by
  unfold pvConv
  simp only [sz.down, tis]
theorem ev_len64_0 : Ev TE 245 [.int .u64 0] (vi 0) := by
  refine Ev.of_awp Tryz.func245 rfl (by simp [nts]) (vc_ok mixed _ _ _ _ ?_)
  have hw : IntKind.u8.wrap 0 = 0 := by decide
  have hw1 : IntKind.i64.wrap 0 = 0 := by decide
  have hw2 : IntKind.i64.wrap (0 + IntKind.i64.wrap ((UInt8.toNat 0 : Nat) : Int)) = 0 := by decide
  simp only [sz.down, ↓reduceIte, Nat.reduceEqDiff, Nat.reduceLT, Nat.reduceLeDiff, Nat.reduceAdd, Int.reduceLE, reduceCtorEq, TEP, tis, nts, Tryz.results245, conv_u64u8, conv_u8i, hw, hw2]
  exact ⟨by decide, Reif.dat rfl⟩
theorem ev_blen_0 : Ev TE 233 [.int .u64 0] (vi 0) := by
  refine Ev.of_awp Tryz.func233 rfl (by simp [nts]) (vc_ok mixed _ _ _ _ ?_)
  simp only [sz.down, ↓reduceIte, Nat.reduceLT, reduceCtorEq, TEP, ens, nts, Tryz.results233]
  refine ACalls.ev ev_len64_0 rfl ?_
  simp only [sz.down, ↓reduceIte, Nat.reduceLT, TEP]
  exact Reif.dat rfl
theorem ins0_calls {v : V} {h : H} {R : AEnd → H → (Nat → Bool) → Prop} (hr : R (.ret (.tup [])) h (fun _ => false)) : ACalls TE 255 [v, vi 0, vi 0] h R := by
  refine ACalls.of_awp Tryz.func255 rfl (by simp [nts]) (vc_ok mixed _ _ _ _ ?_)
  have hw1 : IntKind.i64.wrap 1 = 1 := by decide
  have hz : decide ((1 : Int) < 0) = false := by decide
  simp only [sz.down, ↓reduceIte, Nat.reduceLT, Int.reduceAdd, TEP, nts, Tryz.results255, hw1]
  refine awp_loop (fun m f h' => f.t 6 = vi 1 ∧ f.t 2 = vi 0 ∧ f.d = [] ∧ (∀ j, f.k j = false) ∧ h' = h) 0 ⟨rfl, rfl, rfl, fun _ => rfl, rfl⟩ ?_
  rintro m f h' ⟨h6, h2, hd, hk, rfl⟩
  have hkf : f.k = fun _ => false := funext hk
  refine vc_ok mixed _ _ _ _ ?_
  simp only [sz.down, ↓reduceIte, Nat.reduceEqDiff, Nat.reduceLT, Int.reduceLT, TEP, h6, h2, hd, hkf]
  exact hr
theorem pdq0_calls (id cap : Nat) {h : H} {R : AEnd → H → (Nat → Bool) → Prop} (hr : R (.ret (.tup [])) h (fun _ => false)) : ACalls TE 232 [.ls id 1 0 0 cap, vi 0, vi 0, vi 0] h R := by
  refine ACalls.of_awp Tryz.func232 rfl (by simp [nts]) (vc_ok mixed _ _ _ _ ?_)
  have hw1 : IntKind.i64.wrap 0 = 0 := by decide
  have hz : decide ((0 : Int) ≤ 12) = true := by decide
  simp only [sz.down, Nat.reduceLT, TEP, nts, Tryz.results232]
  refine awp_loop (fun m f h' => f.t 0 = .ls id 1 0 0 cap ∧ f.t 1 = vi 0 ∧ f.t 2 = vi 0 ∧ f.d = [] ∧ (∀ j, f.k j = false) ∧ h' = h) 0 ⟨rfl, rfl, rfl, rfl, fun _ => rfl, rfl⟩ ?_
  rintro m f h' ⟨h0, h1, h2, hd, hk, rfl⟩
  have hkf : f.k = fun _ => false := funext hk
  refine vc_ok mixed _ _ _ _ ?_
  simp only [sz.down, ↓reduceIte, Nat.reduceEqDiff, Nat.reduceLT, Int.reduceLE, Int.reduceSub, reduceCtorEq, TEP, ens, h0, h1, h2, hw1]
  refine ins0_calls ?_
  simp only [sz.down, hd, hkf]
  exact hr
theorem ssort0_calls (id cap : Nat) {h : H} {R : AEnd → H → (Nat → Bool) → Prop} (hr : R (.ret (.tup [])) h (fun _ => false)) : ACalls TE 213 [.ls id 1 0 0 cap] h R := by
  refine ACalls.of_awp Tryz.func213 rfl (by simp [nts]) (vc_ok mixed _ _ _ _ ?_)
  have hw : IntKind.u64.wrap 0 = 0 := by decide
  simp only [sz.down, ↓reduceIte, Nat.reduceEqDiff, Nat.reduceLT, reduceCtorEq, TEP, tis, ens, nts, Tryz.results213, conv_iu]
  refine ACalls.ev ev_blen_0 rfl ?_
  simp only [sz.down, ↓reduceIte, Nat.reduceEqDiff, Nat.reduceLT, TEP, ens]
  refine pdq0_calls _ _ ?_
  simp only [sz.down]
  exact hr

theorem ev_values (l : List S) : Ev TE 181 [strs l] (.fn (.func 214) [] [.ip (strs l)]) := by
  refine Ev.of_awp Tryz.func181 rfl (by simp [nts]) (vc_ok mixed _ _ _ _ ?_)
  simp only [sz.down, ↓reduceIte, Nat.reduceEqDiff, Nat.reduceLT, TEP, nts, Tryz.results181]
  exact Reif.fn Reifs.nil (Reifs.cons (Reif.lp rfl (Reifs.dat rfl) rfl rfl (by simp [V.vc]) rfl) Reifs.nil)

theorem iter_values (l : List S) (hl : l.length ≤ maxLen) : Iter TE 214 [] [.ip (strs l)] (l.map fun p => [.str p]) := by
  intro id h I Stop h0 step
  refine ACalls.of_awp Tryz.func214 rfl (by simp [nts]) (vc_ok mixed _ _ _ _ ?_)
  simp only [sz.down, ↓reduceIte, Nat.reduceLT, TEP, tis, nts, Tryz.results214]
  refine awp_loop (fun m f h => ∃ i, m + i = l.length ∧ f.t 0 = .yd id ∧ f.t 5 = strs l ∧ f.t 6 = .int .i64 (l.length : Int) ∧ f.t 7 = .int .i64 (i : Int) ∧ f.d = [] ∧ f.k id = false ∧ I i h f.k) l.length ⟨0, by simp, rfl, rfl, rfl, rfl, rfl, rfl, h0⟩ ?_
  rintro m f h ⟨i, hm, h0, h6, h7, h8, hd, hk, hI⟩
  refine vc_ok mixed _ _ _ _ ?_
  simp only [sz.down, ↓reduceIte, Nat.reduceLT, TEP, h7, h8]
  refine vcB.mk (fun hc => ?_) (fun hc => ?_)
  · simp only [decide_eq_true_eq, Int.ofNat_lt] at hc
    have hz : i < (l.map fun p => [V.str p]).length := by simp; omega
    have hg := step i h f.k hz hk hI
    have he : (l.map fun p => [V.str p])[i] = [V.str l[i]] := by simp
    rw [he] at hg
    obtain ⟨t, n', ps, asg, body, pend, hL, hsz, hps, hw⟩ := hg
    simp only [sz.down, ↓reduceIte, Nat.reduceEqDiff, Nat.reduceLT, reduceCtorEq, TEP, TEtl, tis, h0, h6, h8, getS hc, hL]
    refine ⟨⟨by omega, by omega⟩, ⟨by simpa using hsz, hps⟩, yieldK_of hw ?_⟩
    intro j h' p hp hS
    refine ⟨by simp [put_d, hd], ?_⟩
    cases j with
    | none =>
      simp only [sz.down, ↓reduceIte, Nat.reduceEqDiff, Nat.reduceLT, TEP, h8, Option.isNone_none, wrap_succ (show i < maxLen by omega)]
      refine .inl ⟨m - 1, by omega, i + 1, by omega, by simp only [sz.down, ↓reduceIte, reduceCtorEq, h0, hp], by simp only [sz.down, ↓reduceIte, Nat.reduceEqDiff, h6], by simp only [sz.down, ↓reduceIte, Nat.reduceEqDiff, h7], by simp only [sz.down, ↓reduceIte], by simp only [sz.down, hd], by simp only [sz.down, hk, hp], by simp only [sz.down]; exact hS⟩
    | some c =>
      simp only [sz.down, ↓reduceIte, Nat.reduceLT, TEP, hd, hp, Option.isNone_some]
      exact ⟨by simp [hk], .inr ⟨c, hS⟩⟩
  · simp only [decide_eq_false_iff_not, Int.ofNat_lt] at hc
    have : i = l.length := by omega
    subst this
    simp only [sz.down, hd]
    refine ⟨hk, .inl ?_⟩
    simpa using hI

theorem evF_appseq (l : List S) (hl : l.length ≤ 1000000000) : EvF TE 231 [.nils, .fn (.func 214) [] [.ip (strs l)]] 1 l.length (l.map V.str) := by
  have hM : maxLen = 9223372036854775807 := rfl
  unfold EvF
  refine ACalls.of_awp Tryz.func231 rfl (by simp [nts]) ?_
  
  refine awp_seq (vc_ok mixed _ _ _ _ ?_)
  simp only [sz.down, Nat.reduceLT, TEP, nts, Tryz.results231]
  refine awp_bare ?_
  refine awp_leH (h' := [.cells [.ls 1 1 0 0 0], .cells []]) (HLe.set (i := 0) (o' := .cells [.ls 1 1 0 0 0]) rfl (OLe.cells (Nat.le_refl _) (VLes.cons VLe.nil_ls (VLes.refl _)))) ?_
  refine vc_ok mixed _ _ _ _ ?_
  simp only [sz.down, ↓reduceIte, Nat.reduceEqDiff, Nat.reduceLT, TEP]
  refine awp_range (n := 13) (q := 214) (first := []) (captured := [.ip (strs l)]) (by simp only [sz.down, ↓reduceIte]) (by simp only [sz.down, ↓reduceIte]) rfl (iter_values l (by omega)) (by intro v hv; simp only [List.mem_map] at hv; obtain ⟨p, _, rfl⟩ := hv; rfl) (by decide)
    (fun L i h k => ∃ t cs, t 2 = .lp 0 0 ∧ (∀ j, j < 4 → j ≠ 1 → k j = false) ∧ cs = (l.take i).map V.str ∧ h = [.cells [.ls 1 1 0 i i], .cells cs, .misc .dfd, L t .ready]) ?_ ?_ ?_
  · intro L
    exact ⟨_, _, by simp only [sz.down, ↓reduceIte, Nat.reduceEqDiff], fun j _ _ => rfl, rfl, rfl⟩
  · rintro L j i h' k hi hdrop hk ⟨t, cs, h2, hk4, hcs, rfl⟩
    have hia : i < l.length := by simpa using hi
    have he : (l.map fun p => [V.str p])[i] = [V.str l[i]] := by simp
    have hcl : cs.length = i := by rw [hcs, List.length_map, List.length_take]; omega
    have hdc : ∀ p, V.drops p cs = cs := fun p => by rw [hcs]; exact drops_strs
    rw [he]
    refine ⟨t, rfl, ?_⟩
    refine vc_ok mixed _ _ _ _ ?_
    simp only [sz.down, ↓reduceIte, Nat.reduceLT, Nat.reduceAdd, TEP]
    refine ⟨rfl, t, rfl, ?_⟩
    refine vc_ok mixed _ _ _ _ ?_
    simp only [sz.down, ↓reduceIte, Nat.reduceEqDiff, Nat.reduceLT, Nat.reduceBEq, reduceCtorEq, Nat.reduceMul, TEP, tis, h2, hdc, hdrop]
    refine ⟨⟨rfl, by decide⟩, ⟨by omega, by omega, by omega⟩, _, rfl, _, _, by rw [h2]; rfl, fun j hj hj1 => by rw [hk4 j hj hj1]; simpa using hj1, ?_, rfl⟩
    rw [hcs, show l.take (i + 1) = l.take i ++ [l[i]] by rw [List.take_add_one, List.getElem?_eq_getElem hia]; rfl, List.map_append]
    rfl
  · rintro L h' k hk ⟨t, cs, h2, hk4, hcs, rfl⟩
    have k0 := hk4 0 (by omega) (by omega)
    have k2 := hk4 2 (by omega) (by omega)
    have k3 := hk4 3 (by omega) (by omega)
    refine ⟨t, rfl, ?_, ?_⟩
    · simp only [sz.down, Nat.reduceAdd]
      exact k2
    · simp only [sz.down, ↓reduceIte, Nat.reduceEqDiff, Nat.reduceLT, Nat.reduceAdd, reduceCtorEq, TEP, tis, k0]
      refine .inr ⟨1, l.length, rfl, Nat.le_refl _, ?_⟩
      rw [hcs, List.length_map, List.take_length]
      rfl

theorem evF_collect (l : List S) (hl : l.length ≤ 1000000000) : EvF TE 212 [.fn (.func 214) [] [.ip (strs l)]] 1 l.length (l.map V.str) := by
  unfold EvF
  refine ACalls.of_awp Tryz.func212 rfl (by simp [nts]) (vc_ok mixed _ _ _ _ ?_)
  simp only [sz.down, ↓reduceIte, Nat.reduceLT, reduceCtorEq, TEP, ens, nts, Tryz.results212]
  refine ACalls.evF (evF_appseq l hl) rfl dats_strs ?_
  simp only [sz.down, ↓reduceIte, Nat.reduceLT, reduceCtorEq, TEP]
  exact .inr ⟨0, l.length, rfl, Nat.le_refl _, rfl⟩

def sortS (l : List S) : List S := l.mergeSort fun x y => decide (x ≤ y)
theorem ev_sorted (l : List S) (hl : l.length ≤ 1000000000) (hm : ∀ s ∈ l, s.length ≤ maxLen) : Ev TE 180 [.fn (.func 214) [] [.ip (strs l)]] (strs (sortS l)) := by
  refine Ev.of_awp Tryz.func180 rfl (by simp [nts]) (vc_ok mixed _ _ _ _ ?_)
  simp only [sz.down, ↓reduceIte, Nat.reduceLT, reduceCtorEq, TEP, ens, nts, Tryz.results180]
  refine ACalls.evF (evF_collect l hl) rfl dats_strs ?_
  simp only [sz.down, ↓reduceIte, Nat.reduceLT, TEP, ens]
  by_cases hne : l = []
  · subst hne
    refine ssort0_calls _ _ ?_
    simp only [sz.down, ↓reduceIte, Nat.reduceEqDiff, Nat.reduceLT, TEP]
    exact Reif.ls_strs (by unfold sortS; rw [List.mergeSort_nil]; rfl) (by unfold sortS; rw [List.mergeSort_nil]; rfl)
  · refine ssort_calls l hm hne hl _ _ _ (by rfl) _ ?_
    simp only [sz.down, ↓reduceIte, Nat.reduceEqDiff, Nat.reduceLT, TEP]
    exact Reif.ls_strs rfl (List.length_mergeSort l).symm

theorem strs_each {l : List S} {r : List V} (hb : V.bnds (strs l :: r)) : ∀ s ∈ l, s.length ≤ maxLen := fun s hs => by
  simp only [V.bnds, V.bnd] at hb
  have := V.bnds_iff.1 hb.1.2 (.str s) (List.mem_map_of_mem hs)
  simpa only [V.bnd] using this
theorem ev_alike (a b : List S) (ha : a.length ≤ 1000000000) (hb : b.length ≤ 1000000000) : Ev TE 107 [strs a, strs b] (.bool (sortS a == sortS b)) := by
  refine Ev.bnd fun hbb => ?_
  have hma := strs_each hbb
  have hmb : ∀ s ∈ b, s.length ≤ maxLen := strs_each (r := []) (by rw [V.bnds] at hbb; exact hbb.2)
  refine Ev.of_awp Tryz.func107 rfl (by simp [nts]) (vc_ok mixed _ _ _ _ ?_)
  simp only [sz.down, ↓reduceIte, Nat.reduceLT, reduceCtorEq, TEP, ens, nts, Tryz.results107]
  refine ACalls.ev (ev_values a) rfl ?_
  simp only [sz.down, ↓reduceIte, Nat.reduceLT, TEP, ens]
  refine ACalls.ev (ev_sorted a ha hma) rfl ?_
  simp only [sz.down, ↓reduceIte, Nat.reduceEqDiff, Nat.reduceLT, TEP, ens]
  refine ACalls.ev (ev_values b) rfl ?_
  simp only [sz.down, ↓reduceIte, Nat.reduceLT, TEP, ens]
  refine ACalls.ev (ev_sorted b hb hmb) rfl ?_
  simp only [sz.down, ↓reduceIte, Nat.reduceEqDiff, Nat.reduceLT, TEP, ens]
  refine ACalls.ev (ev_equal _ _) rfl ?_
  simp only [sz.down, ↓reduceIte, Nat.reduceLT, TEP]
  exact Reif.dat rfl

end Go.Proofs.YtboolnpmlmgpkaaGreatDoor

set_option linter.unusedVariables false
set_option maxRecDepth 20000
set_option linter.unusedSimpArgs false
set_option linter.unnecessarySimpa false
namespace Go.Proofs.YtboolnpmlmgpkaaGreatDoor
open Go Go.Proofs Go.Abs

theorem idx_mem {l : List S} {s : S} (h : s ∈ l) : ∃ i : Nat, idx l (· == s) = i ∧ ∃ hi : i < l.length, l[i] = s := by
  unfold idx
  cases hf : l.findIdx? (· == s) with
  | none => rw [List.findIdx?_eq_none_iff] at hf; have := hf s h; simp at this
  | some i =>
    rw [List.findIdx?_eq_some_iff_getElem] at hf
    obtain ⟨hi, hb, _⟩ := hf
    exact ⟨i, rfl, hi, by simpa using hb⟩
/-- The values in the new names' order. -/
def moveV (fr to : List S) (l : Cl) : Cl := to.map fun s => l.getD (idx fr (· == s)).toNat 0

theorem ev_move (fr to : List S) (l : Cl) (hn : ∀ s ∈ to, s ∈ fr) (hl : l.length = fr.length) (ht : to.length ≤ 1000000) : Ev TE 109 [strs fr, strs to, ints l] (ints (moveV fr to l)) := by
  have hM : maxLen = 9223372036854775807 := rfl
  refine Ev.bnd fun hb => ?_
  refine Ev.of_awp Tryz.func109 rfl (by simp [nts]) (vc_ok mixed _ _ _ _ ?_)
  simp only [sz.down, ↓reduceIte, Nat.reduceEqDiff, Nat.reduceLT, TEP, tis, nts, Tryz.results109]
  refine awp_bareAt 7 1 (by simp only [sz.down, ↓reduceIte, Nat.reduceEqDiff]) ?_
  refine awp_loop (fun m f h => ∃ (i : Nat) (cs : List V), m + i = to.length ∧ f.t 0 = strs fr ∧ f.t 2 = ints l ∧ f.t 7 = .ls 0 1 0 i i ∧ f.t 10 = strs to ∧ f.t 11 = vi to.length ∧ f.t 12 = vi i ∧ f.d = [] ∧ cs = (moveV fr (to.take i) l).map vi ∧ h = [.cells cs]) to.length
    ⟨0, [], by simp, by simp only [sz.down, ↓reduceIte, reduceCtorEq], by simp only [sz.down, ↓reduceIte, Nat.reduceEqDiff], by simp only [sz.down, ↓reduceIte], by simp only [sz.down, ↓reduceIte, Nat.reduceEqDiff], by simp only [sz.down, ↓reduceIte, Nat.reduceEqDiff], by simp only [sz.down, ↓reduceIte, Nat.reduceEqDiff]; rfl, by simp only [sz.down], rfl, rfl⟩ ?_
  rintro m f h ⟨i, cs, hm, h0, h2, h7, h10, h11, h12, hd, hcs, rfl⟩
  have hcl : i ≤ to.length → cs.length = i := fun hi => by rw [hcs, List.length_map, moveV, List.length_map, List.length_take]; omega
  have hdc : ∀ p, V.drops p cs = cs := fun p => by rw [hcs]; exact drops_vi _
  refine vc_ok mixed _ _ _ _ ?_
  simp only [sz.down, ↓reduceIte, Nat.reduceLT, TEP, h11, h12]
  refine vcB.mk (fun hc => ?_) (fun hc => ?_)
  · simp only [decide_eq_true_eq, Int.ofNat_lt] at hc
    obtain ⟨j, hj, hjl, hjs⟩ := idx_mem (hn to[i] (List.getElem_mem hc))
    have hjl2 : j < l.length := by omega
    have hcl' := hcl (by omega)
    simp only [sz.down, ↓reduceIte, Nat.reduceEqDiff, Nat.reduceLT, reduceCtorEq, TEP, tis, ens, h0, h2, h7, h10, h12, getS hc]
    refine ⟨⟨by omega, by omega⟩, ACalls.ev (ev_indexS fr to[i]) rfl ?_⟩
    rw [hj]
    simp only [sz.down, ↓reduceIte, Nat.reduceEqDiff, Nat.reduceLT, reduceCtorEq, Nat.reduceMul, TEP, tis, h12, hd, getI hjl2, hdc, wrap_succ (show i < maxLen by omega)]
    refine ⟨⟨by omega, by omega⟩, ⟨rfl, by decide⟩, ⟨by omega, by omega, by omega⟩, .inl ⟨m - 1, by omega, i + 1, _, by omega, by simp only [sz.down, ↓reduceIte, reduceCtorEq, h0], by simp only [sz.down, ↓reduceIte, Nat.reduceEqDiff, h2], by simp only [sz.down, ↓reduceIte, Nat.reduceEqDiff], by simp only [sz.down, ↓reduceIte, Nat.reduceEqDiff, h10], by simp only [sz.down, ↓reduceIte, Nat.reduceEqDiff, h11], by simp only [sz.down, ↓reduceIte], by simp only [sz.down, hd], ?_, rfl⟩⟩
    rw [hcs]
    unfold moveV
    rw [show to.take (i + 1) = to.take i ++ [to[i]] by rw [List.take_add_one, List.getElem?_eq_getElem hc]; rfl, List.map_append, List.map_append]
    simp [hj, hjl2]
  · simp only [decide_eq_false_iff_not, Int.ofNat_lt] at hc
    simp only [sz.down, ↓reduceIte, Nat.reduceEqDiff, Nat.reduceLT, TEP, h7, hd]
    rw [List.take_of_length_le (by omega)] at hcs
    have hi : i = to.length := by omega
    exact reif_ints (by rw [hcs]; rfl) (by rw [hi, moveV, List.length_map])

theorem alike_mem {a b : List S} (h : (sortS a == sortS b) = true) : ∀ s ∈ b, s ∈ a := fun s hs => by
  have h1 : sortS a = sortS b := by simpa using h
  have h2 : s ∈ sortS b := (List.mergeSort_perm b _).mem_iff.2 hs
  rw [← h1] at h2
  exact (List.mergeSort_perm a _).mem_iff.1 h2
theorem alike_len {a b : List S} (h : (sortS a == sortS b) = true) : a.length = b.length := by
  have h1 : sortS a = sortS b := by simpa using h
  have h2 := (List.mergeSort_perm a fun x y => decide (x ≤ y)).length_eq
  have h3 := (List.mergeSort_perm b fun x y => decide (x ≤ y)).length_eq
  unfold sortS at h1
  rw [h1] at h2
  omega
def Mo.alike (m k : Mo) : Bool := (sortS m.ins == sortS k.ins) && ((sortS m.lat == sortS k.lat) && (sortS m.out == sortS k.out))
def Wi.ren (m k : Mo) (w : Wi) : Wi := ⟨idx k.out (· == m.out.getD w.bad.toNat []), moveV m.lat k.lat w.st, w.steps.map (moveV m.ins k.ins)⟩
def renR (m k : Mo) (w : Wi) : Wi × Int :=
  if m.chk ≠ 0 then (⟨0, [], []⟩, m.chk) else if k.chk ≠ 0 then (⟨0, [], []⟩, k.chk) else if Wi.sized m w = false then (⟨0, [], []⟩, 1) else if m.alike k = false then (⟨0, [], []⟩, 12) else (Wi.ren m k w, 0)
def nilW : V := .agg [vi 0, ints [], cls []]

theorem Mo.small {m : Mo} (h : m.chk = 0) : m.ins.length ≤ 4000 ∧ m.lat.length ≤ 4000 ∧ m.out.length ≤ 4000 := by
  obtain ⟨c1, c2, _⟩ := Mo.chk_parts h
  obtain ⟨_, i0, i1, i2, i3, i4, i5⟩ := Gr.ok_of c1
  simp only [Mo.lens, Bool.or_eq_false_iff, bne_eq_false_iff_eq] at c2
  obtain ⟨⟨l1, l2⟩, l3⟩ := c2
  exact ⟨by omega, by omega, by omega⟩
def planN17 : Plan := .take 0 <| .take 2 <| .take 4 <| .take 6 <| .alt 1 (.alt 3 (.one 5 <| .one 7 <| .one 8 <| .one 9 <| .take 10 <| .one 11 <| .fin) (.one 5 (.one 3 <| .one 7 <| .one 8 <| .one 9 <| .take 10 <| .one 11 <| .fin))) (.alt 3 (.alt 1 (.one 5 <| .one 7 <| .one 8 <| .one 9 <| .take 10 <| .one 11 <| .fin) (.one 5 (.alt 1 (.one 7 <| .one 8 <| .one 9 <| .take 10 <| .one 11 <| .fin) (.one 7 (.alt 1 (.one 8 <| .one 9 <| .take 10 <| .one 11 <| .fin) (.one 8 (.one 1 <| .one 9 <| .take 10 <| .one 11 <| .fin))))))) (.one 5 (.alt 1 (.one 3 <| .one 7 <| .one 8 <| .one 9 <| .take 10 <| .one 11 <| .fin) (.one 3 (.alt 1 (.one 7 <| .one 8 <| .one 9 <| .take 10 <| .one 11 <| .fin) (.one 7 (.alt 1 (.one 8 <| .one 9 <| .take 10 <| .one 11 <| .fin) (.one 8 (.one 1 <| .one 9 <| .take 10 <| .one 11 <| .fin)))))))))

set_option maxHeartbeats 8000000 in
theorem ev_rename (m k : Mo) (w : Wi) (hs : m.g.Sm) (hs2 : k.g.Sm) : Ev TE 42 [m.v, k.v, w.v] (.tup [(renR m k w).1.v, vi (renR m k w).2]) := by
  have hM : maxLen = 9223372036854775807 := rfl
  have hmc := ev_lcheck m hs
  have hkc := ev_lcheck k hs2
  have hsz := ev_wsized m w
  unfold Mo.v Wi.v at *
  refine Ev.of_awp Tryz.func42 rfl (by simp [nts]) ?_
  
  refine awp_seq (vc_ok mixed _ _ _ _ ?_)
  simp only [sz.down, ↓reduceIte, Nat.reduceEqDiff, Nat.reduceLT, Nat.reduceAdd, TEP, tis, nts, Tryz.results42]
  refine awp_seq (vc_ok mixed _ _ _ _ ?_)
  simp only [sz.down, ↓reduceIte, Nat.reduceEqDiff, Nat.reduceLT, Nat.reduceAdd, reduceCtorEq, TEP, tis, ens]
  refine ACalls.ev hmc rfl ?_
  simp only [sz.down, ↓reduceIte, Nat.reduceLT, TEP]
  refine vcB.mk (fun hc => ?_) (fun hc => ?_)
  · have hc : m.chk ≠ 0 := by simpa using hc
    unfold renR
    rw [if_pos hc]
    simp only [sz.down, ↓reduceIte, Nat.reduceEqDiff, Nat.reduceLT, Nat.reduceAdd, reduceCtorEq, TEP, tis]
    exact Reif.tup (Reifs.cons (Reif.agg (Reifs.cons (Reif.dat rfl) (Reifs.cons Reif.nils (Reifs.cons Reif.nils Reifs.nil)))) (Reifs.dat rfl))
  · have h1 : m.chk = 0 := by simpa using hc
    simp only [sz.down]
    refine awp_seq (vc_ok mixed _ _ _ _ ?_)
    simp only [sz.down, ↓reduceIte, Nat.reduceEqDiff, Nat.reduceLT, Nat.reduceAdd, reduceCtorEq, TEP, tis, ens]
    refine ACalls.ev hkc rfl ?_
    simp only [sz.down, ↓reduceIte, Nat.reduceLT, TEP]
    refine vcB.mk (fun hc => ?_) (fun hc => ?_)
    · have hc : k.chk ≠ 0 := by simpa using hc
      unfold renR
      rw [if_neg (by simp [h1]), if_pos hc]
      simp only [sz.down, ↓reduceIte, Nat.reduceEqDiff, Nat.reduceLT, Nat.reduceAdd, reduceCtorEq, TEP, tis]
      exact Reif.tup (Reifs.cons (Reif.agg (Reifs.cons (Reif.dat rfl) (Reifs.cons Reif.nils (Reifs.cons Reif.nils Reifs.nil)))) (Reifs.dat rfl))
    · have h2 : k.chk = 0 := by simpa using hc
      obtain ⟨b1, b2, b3⟩ := Mo.small h1
      obtain ⟨d1, d2, d3⟩ := Mo.small h2
      simp only [sz.down]
      refine awp_seq (awp_mono (Q := fun xe f' h' => (xe = .normal ∧ Wi.sized m w = true ∧ m.alike k = true ∧ f'.t 3 = .lp 0 0 ∧ f'.t 4 = .lp 1 0 ∧ f'.t 5 = .lp 2 0 ∧ f'.t 6 = .lp 3 0 ∧ f'.d = [] ∧ h' = [O.cells [vi m.g.ins, ints m.g.next, ints m.g.init, prs m.g.ands, ints m.g.outs, strs m.ins, strs m.lat, strs m.out], O.cells [vi k.g.ins, ints k.g.next, ints k.g.init, prs k.g.ands, ints k.g.outs, strs k.ins, strs k.lat, strs k.out], O.cells [vi w.bad, ints w.st, cls w.steps], O.cells [vi 0, .nils, .nils]]) ∨
        (xe = .ret ∧ evPost TE [ResultVar.cell 6 54, ResultVar.tmp 7] (.tup [.agg [vi (renR m k w).1.bad, ints (renR m k w).1.st, cls (renR m k w).1.steps], vi (renR m k w).2]) .ret f' h')) ?_ ?_)
      · rintro xe f h (⟨rfl, h3, h4, k3, k4, k5, k6, kd, rfl⟩ | ⟨rfl, hq⟩)
        · show awp _ _ _ _ _ _ _
          obtain ⟨s1, s2, s3, s4, s5, s6, s7⟩ := sized_parts h3
          unfold Mo.alike at h4
          rw [Bool.and_eq_true, Bool.and_eq_true] at h4
          obtain ⟨a1, a2, a3⟩ := h4
          obtain ⟨nb, hnb⟩ : ∃ nb : Nat, w.bad = nb := ⟨w.bad.toNat, by omega⟩
          have hnl : nb < m.out.length := by omega
          have er : renR m k w = (Wi.ren m k w, 0) := by
            unfold renR
            rw [if_neg (by simp [h1]), if_neg (by simp [h2]), if_neg (by simp [h3]), if_neg (by unfold Mo.alike; rw [a1, a2, a3]; decide)]
          have eb : (Wi.ren m k w).bad = idx k.out (· == m.out[nb]) := by
            unfold Wi.ren
            rw [hnb, Int.toNat_natCast]
            simp [List.getD_eq_getElem?_getD, hnl]
          rw [er, hnb]
          refine awp_seq (awp_lateA mixed 17 10 ⟨.struct [(0, 3), (1, 22), (2, 52)], 3, 56, .agg [vi 0, .nils, .nils]⟩ (AlOk.mk' 54 rfl (by simp only [sz.down, TEP, tis]) (by rfl) (by decide +kernel)) (by decide +kernel) ?_)
          simp only [List.size_toArray, List.length_cons, List.length_nil, Nat.reduceAdd, Nat.reduceSub, List.take_succ_cons, List.take_zero]
          simp only [sz.down, ↓reduceIte, Nat.reduceEqDiff, Nat.reduceLT, Nat.reduceLeDiff, Nat.reduceAdd, TEP, tis, vcQuietL, isAlloc, k3, k4, k5, getS hnl]
          refine ⟨⟨by omega, by omega⟩, vcEv.mk (ev_indexS k.out m.out[nb]) rfl rfl ?_⟩
          simp only [sz.down, ↓reduceIte, Nat.reduceEqDiff, Nat.reduceLeDiff, Nat.reduceAdd, k3, k4, k5]
          refine vcEv.mk (ev_move m.lat k.lat w.st (alike_mem a2) (by omega) (by omega)) rfl (by simp only [V.dats, V.dat, Bool.and_self]) ?_
          simp only [sz.down, ↓reduceIte, Nat.reduceEqDiff, Nat.reduceLeDiff, Nat.reduceAdd]
          obtain ⟨st', hst⟩ : ∃ st', st' = moveV m.lat k.lat w.st := ⟨_, rfl⟩
          obtain ⟨bd, hbd⟩ : ∃ bd, bd = idx k.out (· == m.out[nb]) := ⟨_, rfl⟩
          rw [← hst, ← hbd]
          refine awp_bare ?_
          refine awp_leH (h' := [O.cells [vi m.g.ins, ints m.g.next, ints m.g.init, prs m.g.ands, ints m.g.outs, strs m.ins, strs m.lat, strs m.out], O.cells [vi k.g.ins, ints k.g.next, ints k.g.init, prs k.g.ands, ints k.g.outs, strs k.ins, strs k.lat, strs k.out], O.cells [vi nb, ints w.st, cls w.steps], O.cells [vi 0, .nils, .nils], .cells [vi bd, ints st', .ls 5 1 0 0 0], .cells []])
            (HLe.set (i := 4) (o' := .cells [vi bd, ints st', .ls 5 1 0 0 0]) rfl (OLe.cells (Nat.le_refl _) (VLes.cons (VLe.refl _) (VLes.cons (VLe.refl _) (VLes.cons VLe.nil_ls (VLes.refl _)))))) ?_
          obtain ⟨F, hF⟩ : ∃ F : Nat → Cl, F = fun i => moveV m.ins k.ins (w.steps.getD i []) := ⟨_, rfl⟩
          refine awp_seq (awp_seq (awp_mono (Q := fun xe f' h' => xe = .normal ∧ f'.t 3 = .lp 0 0 ∧ f'.t 4 = .lp 1 0 ∧ f'.t 6 = .lp 3 0 ∧ f'.t 10 = .lp 4 0 ∧ f'.t 69 = cls w.steps ∧ f'.t 70 = vi w.steps.length ∧ f'.t 71 = vi 0 ∧ f'.d = [] ∧ h' = [O.cells [vi m.g.ins, ints m.g.next, ints m.g.init, prs m.g.ands, ints m.g.outs, strs m.ins, strs m.lat, strs m.out], O.cells [vi k.g.ins, ints k.g.next, ints k.g.init, prs k.g.ands, ints k.g.outs, strs k.ins, strs k.lat, strs k.out], O.cells [vi nb, ints w.st, cls w.steps], O.cells [vi 0, .nils, .nils], .cells [vi bd, ints st', .ls 5 1 0 0 0], .cells []]) ?_ ?_))
          · rintro xe f h ⟨rfl, k3, k4, k6, k10, k69, k70, k71, kd, rfl⟩
            show awp _ _ _ _ _ _ _
            refine awp_mono (Q := fun xe f' h' => xe = .normal ∧ f'.t 6 = .lp 3 0 ∧ f'.t 10 = .lp 4 0 ∧ f'.d = [] ∧ ∃ cs, cs = (w.steps.map (moveV m.ins k.ins)).map (fun c => ints c) ∧ h' = [O.cells [vi m.g.ins, ints m.g.next, ints m.g.init, prs m.g.ands, ints m.g.outs, strs m.ins, strs m.lat, strs m.out], O.cells [vi k.g.ins, ints k.g.next, ints k.g.init, prs k.g.ands, ints k.g.outs, strs k.ins, strs k.lat, strs k.out], O.cells [vi nb, ints w.st, cls w.steps], O.cells [vi 0, .nils, .nils], .cells [vi bd, ints st', .ls 5 1 0 w.steps.length w.steps.length], .cells cs]) ?_ ?_
            · rintro xe f h ⟨rfl, k6, k10, kd, cs, hcs, rfl⟩
              show awp _ _ _ _ _ _ _
              refine awp_seq (vc_ok mixed _ _ _ _ ?_)
              simp only [sz.down, ↓reduceIte, Nat.reduceEqDiff, Nat.reduceLT, Nat.reduceAdd, reduceCtorEq, TEP, tis, k6, k10]
              refine vc_ok mixed _ _ _ _ ?_
              simp only [sz.down, ↓reduceIte, Nat.reduceEqDiff, Nat.reduceAdd, reduceCtorEq, TEP, tis, k6, kd]
              have ew : (Wi.ren m k w).v = .agg [vi bd, ints st', cls (w.steps.map (moveV m.ins k.ins))] := by
                show V.agg [vi (Wi.ren m k w).bad, _, _] = _
                rw [eb, ← hbd, hst]; rfl
              show Reif TE _ _ (.tup [(Wi.ren m k w).v, vi 0])
              rw [ew]
              refine Reif.tup (Reifs.cons (Reif.agg (Reifs.cons (Reif.dat rfl) (Reifs.cons (Reif.dat datI) (Reifs.cons (Reif.ls (by rw [hcs]; rfl) (Reifs.dat (cls_ok _).1) (cls_ok _).2.1 (cls_ok _).2.2 (by simp)) Reifs.nil)))) (Reifs.dat rfl))
            · refine awp_block ?_
              refine awp_loop (fun j f' h' => ∃ (i : Nat) (cs : List V), j + i = w.steps.length ∧ f'.t 3 = .lp 0 0 ∧ f'.t 4 = .lp 1 0 ∧ f'.t 6 = .lp 3 0 ∧ f'.t 10 = .lp 4 0 ∧ f'.t 69 = cls w.steps ∧ f'.t 70 = vi w.steps.length ∧ f'.t 71 = vi i ∧ f'.d = [] ∧ cs = ((w.steps.take i).map (moveV m.ins k.ins)).map (fun c => ints c) ∧ h' = [O.cells [vi m.g.ins, ints m.g.next, ints m.g.init, prs m.g.ands, ints m.g.outs, strs m.ins, strs m.lat, strs m.out], O.cells [vi k.g.ins, ints k.g.next, ints k.g.init, prs k.g.ands, ints k.g.outs, strs k.ins, strs k.lat, strs k.out], O.cells [vi nb, ints w.st, cls w.steps], O.cells [vi 0, .nils, .nils], .cells [vi bd, ints st', .ls 5 1 0 i i], .cells cs]) w.steps.length
                ⟨0, [], by omega, k3, k4, k6, k10, k69, k70, k71, kd, rfl, rfl⟩ ?_
              rintro j f h ⟨i, cs, hj, k3, k4, k6, k10, k69, k70, k71, kd, hcs, rfl⟩
              refine awp_seq ?_
              refine vc_ok mixed _ _ _ _ ?_
              simp only [sz.down, Nat.reduceLT, TEP, k70, k71]
              refine awp_seq ?_
              refine vc_ok mixed _ _ _ _ ?_
              simp only [sz.down, ↓reduceIte]
              refine vcB.mk (fun hc => ?_) (fun hc => ?_)
              · simp only [decide_eq_true_eq, Int.ofNat_lt] at hc
                simp only [sz.down]
                refine awp_seq (awp_block (awp_seq (awp_mono (Q := fun xe f' h' => xe = .normal ∧ f'.t 3 = .lp 0 0 ∧ f'.t 4 = .lp 1 0 ∧ f'.t 6 = .lp 3 0 ∧ f'.t 10 = .lp 4 0 ∧ f'.t 12 = ints w.steps[i] ∧ f'.t 69 = cls w.steps ∧ f'.t 70 = vi w.steps.length ∧ f'.t 71 = vi i ∧ f'.d = [] ∧ h' = [O.cells [vi m.g.ins, ints m.g.next, ints m.g.init, prs m.g.ands, ints m.g.outs, strs m.ins, strs m.lat, strs m.out], O.cells [vi k.g.ins, ints k.g.next, ints k.g.init, prs k.g.ands, ints k.g.outs, strs k.ins, strs k.lat, strs k.out], O.cells [vi nb, ints w.st, cls w.steps], O.cells [vi 0, .nils, .nils], .cells [vi bd, ints st', .ls 5 1 0 i i], .cells cs]) ?_ ?_)))
                · rintro xe f h ⟨rfl, k3, k4, k6, k10, k12, k69, k70, k71, kd, rfl⟩
                  show awp _ _ _ _ _ _ _
                  have hcl : cs.length = i := by rw [hcs, List.length_map, List.length_map, List.length_take]; omega
                  have hdc : ∀ p, V.drops p cs = cs := fun p => by
                    rw [hcs]
                    induction (w.steps.take i).map (moveV m.ins k.ins) with
                    | nil => rfl
                    | cons c L ih => rw [List.map_cons, V.drops, ih]; rfl
                  have hmv := ev_move m.ins k.ins w.steps[i] (alike_mem a1) (s7 _ (List.getElem_mem hc)).1 (by omega)
                  refine awp_plan mixed planN17 (fun f' h' => f'.t 3 = .lp 0 0 ∧ f'.t 4 = .lp 1 0 ∧ f'.t 6 = .lp 3 0 ∧ f'.t 10 = .lp 4 0 ∧ f'.t 69 = cls w.steps ∧ f'.t 70 = vi w.steps.length ∧ f'.t 71 = vi i ∧ f'.d = [] ∧ h' = [O.cells [vi m.g.ins, ints m.g.next, ints m.g.init, prs m.g.ands, ints m.g.outs, strs m.ins, strs m.lat, strs m.out], O.cells [vi k.g.ins, ints k.g.next, ints k.g.init, prs k.g.ands, ints k.g.outs, strs k.ins, strs k.lat, strs k.out], O.cells [vi nb, ints w.st, cls w.steps], O.cells [vi 0, .nils, .nils], .cells [vi bd, ints st', .ls 5 1 0 (i + 1) (i + 1)], .cells (cs ++ [ints (moveV m.ins k.ins w.steps[i])])]) (by decide +kernel) (by decide +kernel) ?_ ?_
                  · simp only [sz.down, ↓reduceIte, Nat.reduceEqDiff, Nat.reduceLT, Nat.reduceLeDiff, Nat.reduceAdd, TEP, tis, ens, planN17, k3, k4, k10, k12]
                    repeat' apply And.intro
                    all_goals
                      refine ACalls.ev hmv (by simp only [V.dats, V.dat, Bool.and_self]) ?_
                      simp only [sz.down, ↓reduceIte, Nat.reduceEqDiff, Nat.reduceLT, Nat.reduceAdd, Nat.reduceBEq, reduceCtorEq, Nat.reduceMul, TEP, tis, k3, k4, k6, k10, k69, k70, k71, kd, hdc]
                      exact ⟨⟨rfl, by decide⟩, by omega, by omega, by omega⟩
                  · rintro f h ⟨k3, k4, k6, k10, k69, k70, k71, kd, rfl⟩
                    show awp _ _ _ _ _ _ _
                    have hw : IntKind.i64.wrap ((i : Int) + 1) = ((i + 1 : Nat) : Int) := by rw [wrap64 (by omega) (by omega)]; omega
                    refine vc_ok mixed _ _ _ _ ?_
                    simp only [sz.down, ↓reduceIte, Nat.reduceLT, TEP, k71, hw]
                    refine .inl ⟨j - 1, by omega, i + 1, _, by omega, by simp only [sz.down, ↓reduceIte, Nat.reduceEqDiff, k3], by simp only [sz.down, ↓reduceIte, Nat.reduceEqDiff, k4], by simp only [sz.down, ↓reduceIte, Nat.reduceEqDiff, k6], by simp only [sz.down, ↓reduceIte, Nat.reduceEqDiff, k10], by simp only [sz.down, ↓reduceIte, Nat.reduceEqDiff, k69], by simp only [sz.down, ↓reduceIte, Nat.reduceEqDiff, k70], by simp only [sz.down, ↓reduceIte], by simp only [sz.down, kd], ?_, rfl⟩
                    rw [hcs, show w.steps.take (i + 1) = w.steps.take i ++ [w.steps[i]] by rw [List.take_add_one, List.getElem?_eq_getElem hc]; rfl, List.map_append, List.map_append]
                    rfl
                · refine vc_ok mixed _ _ _ _ ?_
                  simp only [sz.down, ↓reduceIte, Nat.reduceEqDiff, Nat.reduceLT, TEP, tis, k3, k4, k6, k10, k69, k70, k71, kd, getC hc]
                  try exact ⟨by omega, by omega⟩
              · simp only [decide_eq_false_iff_not, Int.ofNat_lt] at hc
                have hi : i = w.steps.length := by omega
                subst hi
                simp only [sz.down, ↓reduceIte, Nat.reduceEqDiff]
                exact ⟨k6, k10, kd, cs, by rw [hcs, List.take_length], rfl⟩
          · refine vc_ok mixed _ _ _ _ ?_
            simp only [sz.down, ↓reduceIte, Nat.reduceEqDiff, Nat.reduceLT, Nat.reduceAdd, TEP, tis, k3, k4, k5, k6, kd]
        · exact hq
      · refine awp_block ?_
        refine vc_ok mixed _ _ _ _ ?_
        simp only [sz.down, ↓reduceIte, Nat.reduceEqDiff, Nat.reduceLT, Nat.reduceAdd, reduceCtorEq, TEP, tis, ens]
        refine ACalls.ev hsz rfl ?_
        have eR : Wi.sized m w = false → renR m k w = (⟨0, [], []⟩, 1) := fun h => by
          unfold renR
          rw [if_neg (by simp [h1]), if_neg (by simp [h2]), if_pos h]
        have eA : Wi.sized m w = true → m.alike k = false → renR m k w = (⟨0, [], []⟩, 12) := fun h h' => by
          unfold renR
          rw [if_neg (by simp [h1]), if_neg (by simp [h2]), if_neg (by simp [h]), if_pos h']
        cases hz : Wi.sized m w with
        | false =>
          rw [eR hz]
          simp only [sz.down, ↓reduceIte, Nat.reduceEqDiff, Nat.reduceLT, Nat.reduceAdd, reduceCtorEq, TEP, tis]
          exact .inr (Reif.tup (Reifs.cons (Reif.agg (Reifs.cons (Reif.dat rfl) (Reifs.cons Reif.nils (Reifs.cons Reif.nils Reifs.nil)))) (Reifs.dat rfl)))
        | true =>
          simp only [sz.down, ↓reduceIte, Nat.reduceEqDiff, Nat.reduceLT, Nat.reduceLeDiff, Nat.reduceAdd, TEP, tis, ens]
          refine ACalls.ev (ev_alike m.ins k.ins (by omega) (by omega)) rfl ?_
          cases e1 : (sortS m.ins == sortS k.ins) with
          | false =>
            have ha : m.alike k = false := by unfold Mo.alike; rw [e1]; rfl
            rw [eA hz ha]
            simp only [sz.down, ↓reduceIte, Nat.reduceEqDiff, Nat.reduceLT, Nat.reduceAdd, reduceCtorEq, TEP, tis]
            exact .inr (Reif.tup (Reifs.cons (Reif.agg (Reifs.cons (Reif.dat rfl) (Reifs.cons Reif.nils (Reifs.cons Reif.nils Reifs.nil)))) (Reifs.dat rfl)))
          | true =>
            simp only [sz.down, ↓reduceIte, Nat.reduceEqDiff, Nat.reduceLT, Nat.reduceLeDiff, Nat.reduceAdd, TEP, tis, ens]
            refine ACalls.ev (ev_alike m.lat k.lat (by omega) (by omega)) rfl ?_
            cases e2 : (sortS m.lat == sortS k.lat) with
            | false =>
              have ha : m.alike k = false := by unfold Mo.alike; rw [e1, e2]; rfl
              rw [eA hz ha]
              simp only [sz.down, ↓reduceIte, Nat.reduceEqDiff, Nat.reduceLT, Nat.reduceAdd, reduceCtorEq, TEP, tis]
              exact .inr (Reif.tup (Reifs.cons (Reif.agg (Reifs.cons (Reif.dat rfl) (Reifs.cons Reif.nils (Reifs.cons Reif.nils Reifs.nil)))) (Reifs.dat rfl)))
            | true =>
              simp only [sz.down, ↓reduceIte, Nat.reduceEqDiff, Nat.reduceLT, Nat.reduceAdd, TEP, tis, ens]
              refine ACalls.ev (ev_alike m.out k.out (by omega) (by omega)) rfl ?_
              cases e3 : (sortS m.out == sortS k.out) with
              | false =>
                have ha : m.alike k = false := by unfold Mo.alike; rw [e1, e2, e3]; rfl
                rw [eA hz ha]
                simp only [sz.down, ↓reduceIte, Nat.reduceEqDiff, Nat.reduceLT, Nat.reduceAdd, reduceCtorEq, TEP, tis]
                exact .inr (Reif.tup (Reifs.cons (Reif.agg (Reifs.cons (Reif.dat rfl) (Reifs.cons Reif.nils (Reifs.cons Reif.nils Reifs.nil)))) (Reifs.dat rfl)))
              | true =>
                have ha : m.alike k = true := by unfold Mo.alike; rw [e1, e2, e3]; rfl
                simp only [sz.down, ↓reduceIte, Nat.reduceEqDiff, Nat.reduceLT, Nat.reduceAdd, reduceCtorEq, TEP]
                exact .inl ha

end Go.Proofs.YtboolnpmlmgpkaaGreatDoor
