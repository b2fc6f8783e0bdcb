/- Functions of the program, part 3. -/
import Derived.Test.YtbikgbnhngmohaaDoorP0
import Derived.Test.YtbikgbnhngmohaaDoorA9
import Derived.Test.YtbikgbnhngmohaaDoorF1
import Derived.Test.YtbikgbnhngmohaaDoorF2
set_option linter.unusedVariables false
set_option linter.unusedSimpArgs false
set_option linter.unnecessarySimpa false
namespace Go.Proofs.YtbikgbnhngmohaaDoor
open Go Go.Proofs Go.Abs Go.RowKit

abbrev vi (n : Int) : V := .int .i64 n
/-- An error of the package's own. -/
def werr (k : Int) : V := .iface 40 (.ip (.iface 23 (.int .i64 k)))

theorem as_nili (t : V) (h : H) (R : AEnd → H → (Nat → Bool) → Prop) (hr : R (.ret (.bool false)) h (fun _ => false)) : ACalls TE 28 [.nili, t] h R := by
  intro ok pl w vs hs hl
  simp only [VList, VRel] at hl
  obtain ⟨y, ys, rfl, rfl, y2, ys2, rfl, hv2, rfl⟩ := hl
  refine Calls.mono (as_nil y2 w) ?_
  rintro en w' ⟨rfl, rfl⟩
  exact ⟨_, pl, h, .ret (.bool false), hs, Keeps.refl pl w', by simp only [EndRel, VRel], hr⟩

theorem asWorld_ext (t : Addr) (k : Int) (w : World) : WExt w (asWorld t k w) :=
  (((WExt.alloc w _).trans (WExt.alloc _ _)).trans (WExt.alloc _ _)).trans (WExt.alloc _ _)

theorem as_werr (k : Int) (j : Nat) (old : V) (h : H) (hh : h[j]? = some (.cells [old])) (R : AEnd → H → (Nat → Bool) → Prop)
    (hr : R (.ret (.bool true)) (h.set j (.cells [.int .i64 k])) (fun _ => false)) : ACalls TE 28 [werr k, .iface 52 (.lp j 0)] h R := by
  intro ok pl w vs hs hl
  simp only [werr, VList, VRel] at hl
  obtain ⟨y, ys, rfl, ⟨ev1, rfl, p, po, ev2, rfl, hrd, hpos, ev3, rfl, rfl⟩, y2, ys2, rfl, ⟨ev4, rfl, b, hb, rfl⟩, rfl⟩ := hl
  have hp : w.cell? ⟨p, po, none⟩ = some (.iface 23 (.int .i64 k)) := by
    have h1 : w.cell? ⟨p, po + 0, none⟩ = (Value.iface 23 (.int .i64 k)).cells[0]? := (hrd 0 hpos).2
    simpa [Value.cells] using h1
  obtain ⟨_, cs, ty, fz, hg0, hg1⟩ := hs.exa 0 _ rfl
  have hg : w.cell? ⟨0, 0, none⟩ = some (.iface 75 (.agg #[.pointer (some ⟨6, 42, none⟩)])) := by
    have hg0 : w.heap[0]? = some (.cells cs ty fz) := hg0
    simp only [World.cell?, hg0]
    have hg1 : cs = _ := hg1
    subst hg1
    rfl
  obtain ⟨o, ho, hat⟩ := hs.obj j b hb
  rw [hh] at ho; cases ho
  obtain ⟨arr, el, fz2, a1, a2, a3, a4⟩ := hat
  have a1 : w.heap[b]? = some (.cells arr el fz2) := a1
  have a3 : 1 ≤ arr.size := a3
  have ht : w.cell? ⟨b, 0, none⟩ = some arr[0] := by
    simp only [World.cell?, a1]
    simp [show 0 < arr.size by omega]
  have hf : w.frozen? ⟨b, 0, none⟩ = false := by
    simp only [World.frozen?, a1]
    have := a2 0 (by omega)
    simpa using this
  refine Calls.mono (as_hit p po ⟨b, 0, none⟩ k arr[0] w hp hg ht hf) ?_
  rintro en w' ⟨rfl, rfl⟩
  have x := asWorld_ext ⟨b, 0, none⟩ k w
  have hs1 := hs.wext x
  obtain ⟨w2, hrun, hs2, k2⟩ := cells_write (xs := [.int .i64 k]) hs1 hb (off := 0) (vs := [.int .i64 k]) (by simp [VList, VRel]) rfl hh (by simp)
  obtain ⟨o3, ho3, hat3⟩ := hs1.obj j b hb
  rw [hh] at ho3; cases ho3
  obtain ⟨arr3, el3, fz3, c1, c2, c3, c4⟩ := hat3
  have hrun2 := run_store_cells (P := TE.P) (w := asWorld ⟨b, 0, none⟩ k w) (o := 0) (vs := [.int .i64 k]) c1 c2 (by simpa using c3) (by intro v hv; simp at hv; subst hv; rfl)
  rw [hrun2] at hrun
  cases hrun
  exact ⟨_, pl, _, .ret (.bool true), hs2, (x.keeps hs).trans k2, by simp only [EndRel, VRel], hr⟩

theorem ev_told_ok (n e a : Int) : Ev TE 23 [vi n, vi e, vi a, .nili] (.tup [vi n, vi e, vi 0]) := by
  refine Ev.of_awp Tryd.func23 rfl (by simp [nts]) (vc_ok mixed _ _ _ _ ?_)
  simp only [sa0.down, sa1.down, sa2.down, sa3.down, sa4.down, sb0.down, sb1.down, sb2.down, sb3.down, ↓reduceIte, Nat.reduceEqDiff, Nat.reduceLT, Nat.reduceLeDiff, Nat.reduceAdd, Nat.reduceSub, Int.reduceToNat, Nat.reduceDiv, Int.reduceLT, Int.reduceLE, Int.reduceNeg, Int.reduceBEq, Int.reduceBNe, Int.reduceAdd, Int.reduceSub, Nat.reduceBEq, reduceCtorEq, Nat.reduceMul, TEP, pvNilI, tis, ens, nts, Tryd.results23]
  refine ⟨nofun, as_nili _ _ _ ?_⟩
  simp only [sa0.down, sa1.down, sa2.down, sa3.down, sa4.down, sb0.down, sb1.down, sb2.down, sb3.down, ↓reduceIte, Nat.reduceEqDiff, Nat.reduceLT, Nat.reduceLeDiff, Nat.reduceAdd, Nat.reduceSub, Int.reduceToNat, Nat.reduceDiv, Int.reduceLT, Int.reduceLE, Int.reduceNeg, Int.reduceBEq, Int.reduceBNe, Int.reduceAdd, Int.reduceSub, Nat.reduceBEq, reduceCtorEq, Nat.reduceMul, TEP, pvNilI, tis, ens, nts, Tryd.results23]
  exact Reif.dat rfl

theorem ev_told_err (n e a k : Int) : Ev TE 23 [vi n, vi e, vi a, werr k] (.tup [vi 0, vi a, vi k]) := by
  refine Ev.of_awp Tryd.func23 rfl (by simp [nts]) (vc_ok mixed _ _ _ _ ?_)
  simp only [sa0.down, sa1.down, sa2.down, sa3.down, sa4.down, sb0.down, sb1.down, sb2.down, sb3.down, ↓reduceIte, Nat.reduceEqDiff, Nat.reduceLT, Nat.reduceLeDiff, Nat.reduceAdd, Nat.reduceSub, Int.reduceToNat, Nat.reduceDiv, Int.reduceLT, Int.reduceLE, Int.reduceNeg, Int.reduceBEq, Int.reduceBNe, Int.reduceAdd, Int.reduceSub, Nat.reduceBEq, reduceCtorEq, Nat.reduceMul, TEP, pvNilI, tis, ens, nts, Tryd.results23, werr]
  refine ⟨nofun, as_werr k 0 _ _ rfl _ ?_⟩
  simp only [sa0.down, sa1.down, sa2.down, sa3.down, sa4.down, sb0.down, sb1.down, sb2.down, sb3.down, ↓reduceIte, Nat.reduceEqDiff, Nat.reduceLT, Nat.reduceLeDiff, Nat.reduceAdd, Nat.reduceSub, Int.reduceToNat, Nat.reduceDiv, Int.reduceLT, Int.reduceLE, Int.reduceNeg, Int.reduceBEq, Int.reduceBNe, Int.reduceAdd, Int.reduceSub, Nat.reduceBEq, reduceCtorEq, Nat.reduceMul, TEP, pvNilI, tis, ens, nts, Tryd.results23]
  exact ⟨by decide +kernel, Reif.dat rfl⟩

def fitsB (n : Int) : Bool := decide (0 ≤ n) && decide (n ≤ 2147483647)
theorem ev_fits (n : Int) : Ev TE 20 [vi n] (.bool (fitsB n)) := by
  refine Ev.of_awp Tryd.func20 rfl (by simp [nts]) (vc_ok mixed _ _ _ _ ?_)
  simp only [sa0.down, sa1.down, sa2.down, sa3.down, sa4.down, sb0.down, sb1.down, sb2.down, sb3.down, ↓reduceIte, Nat.reduceEqDiff, Nat.reduceLT, Nat.reduceLeDiff, Nat.reduceAdd, Nat.reduceSub, Int.reduceToNat, Nat.reduceDiv, Int.reduceLT, Int.reduceLE, Int.reduceNeg, Int.reduceBEq, Int.reduceBNe, Int.reduceAdd, Int.reduceSub, Nat.reduceBEq, reduceCtorEq, Nat.reduceMul, TEP, pvNilI, tis, ens, nts, Tryd.results20]
  exact Reif.eq rfl rfl

def isDig (c : UInt8) : Bool := decide (48 ≤ c.toNat) && decide (c.toNat ≤ 57)
theorem ev_digit (c : UInt8) : Ev TE 15 [.int .u8 c.toNat] (.bool (isDig c)) := by
  refine Ev.of_awp Tryd.func15 rfl (by simp [nts]) (vc_ok mixed _ _ _ _ ?_)
  simp only [sa0.down, sa1.down, sa2.down, sa3.down, sa4.down, sb0.down, sb1.down, sb2.down, sb3.down, ↓reduceIte, Nat.reduceEqDiff, Nat.reduceLT, Nat.reduceLeDiff, Nat.reduceAdd, Nat.reduceSub, Int.reduceToNat, Nat.reduceDiv, Int.reduceLT, Int.reduceLE, Int.reduceNeg, Int.reduceBEq, Int.reduceBNe, Int.reduceAdd, Int.reduceSub, Nat.reduceBEq, reduceCtorEq, Nat.reduceMul, TEP, pvNilI, tis, ens, nts, Tryd.results15]
  refine Reif.eq rfl (congrArg V.bool ?_)
  have := c.toNat_lt
  unfold isDig
  rw [IntKind.wrap_u8, Bool.eq_iff_iff]
  simp only [decide_eq_true_eq, Bool.and_eq_true]
  omega
theorem ev_rdigit (c : UInt8) : Ev TE 14 [.int .u8 c.toNat] (.bool (isDig c)) := by
  refine Ev.of_awp Tryd.func14 rfl (by simp [nts]) (vc_ok mixed _ _ _ _ ?_)
  simp only [sa0.down, sa1.down, sa2.down, sa3.down, sa4.down, sb0.down, sb1.down, sb2.down, sb3.down, ↓reduceIte, Nat.reduceEqDiff, Nat.reduceLT, Nat.reduceLeDiff, Nat.reduceAdd, Nat.reduceSub, Int.reduceToNat, Nat.reduceDiv, Int.reduceLT, Int.reduceLE, Int.reduceNeg, Int.reduceBEq, Int.reduceBNe, Int.reduceAdd, Int.reduceSub, Nat.reduceBEq, reduceCtorEq, Nat.reduceMul, TEP, pvNilI, tis, ens, nts, Tryd.results14]
  refine Reif.eq rfl (congrArg V.bool ?_)
  unfold isDig
  rw [Bool.eq_iff_iff]
  simp only [decide_eq_true_eq, Bool.and_eq_true]
  omega

theorem grow_ext (w : World) (k : Nat) (os : Array Obj) : WExt w (Sort.grow (w.drewN k) os) := by
  refine ⟨rfl, rfl, rfl, ?_, fun b hb => ?_⟩
  · show w.heap.size ≤ (w.heap ++ os).size
    simp
  · show (w.heap ++ os)[b]? = w.heap[b]?
    rw [Array.getElem?_append_left hb]

theorem var_at {w : World} {name : String} {g : Nat} {cs : Array Value} {ty : TypeId} {fz : Nat × Nat} (hn : Tryd.prog.globalNamed name = some g) (hg : w.heap[g]? = some (.cells cs ty fz)) : w.var? Tryd.prog name = some cs := by
  unfold World.var?
  rw [hn]
  simp [hg]

theorem nDigits_le' : ∀ (k u : Nat), u < 10 ^ (k + 1) → Lib.nDigits u ≤ k + 1
  | 0, u, h => by rw [Lib.nDigits_small (by simpa using h)]; exact Nat.le_refl _
  | k + 1, u, h => by
    by_cases hu : u < 10
    · rw [Lib.nDigits_small hu]; omega
    · rw [Lib.nDigits_big hu]
      have := nDigits_le' k (u / 10) (by rw [Nat.pow_succ] at h; omega)
      omega

theorem itoa_len (n : Int) (h0 : 0 ≤ n) (h1 : n ≤ 2147483647) : (Lib.itoa n).length ≤ 10 := by
  obtain ⟨m, rfl⟩ : ∃ m : Nat, n = m := ⟨n.toNat, by omega⟩
  unfold Lib.itoa
  rw [if_neg (by omega), Int.toNat_natCast, Lib.decDigits_length]
  exact nDigits_le' 9 m (by omega)

theorem ev_itoa (n : Int) (h0 : 0 ≤ n) (h1 : n ≤ 2147483647) : Ev TE 21 [vi n] (.str (Lib.itoa n)) := by
  intro ok w vs hs hl
  simp only [VList, VRel] at hl
  obtain ⟨y, ys, rfl, rfl, rfl⟩ := hl
  obtain ⟨_, cs, ty, fz, hg0, hg1⟩ := hs.exa 1 _ rfl
  have hg1 : cs = _ := hg1
  subst hg1
  refine Calls.mono (itoa_at n (by omega) (by omega) w (var_at (by kernel_rfl) hg0)) ?_
  rintro en w' ⟨rfl, k, os, rfl⟩
  refine ⟨_, rfl, grow_ext w k os, ?_⟩
  simp only [VRel]
  exact ⟨_, rfl, by simp, by have := itoa_len n h0 h1; simp only [maxLen]; omega⟩

/-- What Put tells. -/
def putV (n : Int) : List UInt8 × Int := if fitsB n = true then (Lib.itoa n, 0) else ([], 3)
theorem ev_put (n : Int) : Ev TE 10 [vi n] (.tup [.str (putV n).1, vi (putV n).2]) := by
  refine Ev.of_awp Tryd.func10 rfl (by simp [nts]) (vc_ok mixed _ _ _ _ ?_)
  simp only [sa0.down, sa1.down, sa2.down, sa3.down, sa4.down, sb0.down, sb1.down, sb2.down, sb3.down, ↓reduceIte, Nat.reduceEqDiff, Nat.reduceLT, Nat.reduceLeDiff, Nat.reduceAdd, Nat.reduceSub, Int.reduceToNat, Nat.reduceDiv, Int.reduceLT, Int.reduceLE, Int.reduceNeg, Int.reduceBEq, Int.reduceBNe, Int.reduceAdd, Int.reduceSub, Nat.reduceBEq, reduceCtorEq, Nat.reduceMul, TEP, pvNilI, tis, ens, nts, Tryd.results10]
  refine ACalls.ev (ev_fits n) rfl ?_
  unfold putV
  cases hf : fitsB n with
  | false =>
    simp only [sa0.down, sa1.down, sa2.down, sa3.down, sa4.down, sb0.down, sb1.down, sb2.down, sb3.down, ↓reduceIte, Nat.reduceEqDiff, Nat.reduceLT, Nat.reduceLeDiff, Nat.reduceAdd, Nat.reduceSub, Int.reduceToNat, Nat.reduceDiv, Int.reduceLT, Int.reduceLE, Int.reduceNeg, Int.reduceBEq, Int.reduceBNe, Int.reduceAdd, Int.reduceSub, Nat.reduceBEq, reduceCtorEq, Nat.reduceMul, TEP, pvNilI, tis, ens, nts, Tryd.results10]
    exact Reif.dat rfl
  | true =>
    have hf : 0 ≤ n ∧ n ≤ 2147483647 := by simpa [fitsB] using hf
    simp only [sa0.down, sa1.down, sa2.down, sa3.down, sa4.down, sb0.down, sb1.down, sb2.down, sb3.down, ↓reduceIte, Nat.reduceEqDiff, Nat.reduceLT, Nat.reduceLeDiff, Nat.reduceAdd, Nat.reduceSub, Int.reduceToNat, Nat.reduceDiv, Int.reduceLT, Int.reduceLE, Int.reduceNeg, Int.reduceBEq, Int.reduceBNe, Int.reduceAdd, Int.reduceSub, Nat.reduceBEq, reduceCtorEq, Nat.reduceMul, TEP, pvNilI, tis, ens, nts, Tryd.results10]
    refine ACalls.ev (ev_itoa n hf.1 hf.2) rfl ?_
    simp only [sa0.down, sa1.down, sa2.down, sa3.down, sa4.down, sb0.down, sb1.down, sb2.down, sb3.down, ↓reduceIte, Nat.reduceEqDiff, Nat.reduceLT, Nat.reduceLeDiff, Nat.reduceAdd, Nat.reduceSub, Int.reduceToNat, Nat.reduceDiv, Int.reduceLT, Int.reduceLE, Int.reduceNeg, Int.reduceBEq, Int.reduceBNe, Int.reduceAdd, Int.reduceSub, Nat.reduceBEq, reduceCtorEq, Nat.reduceMul, TEP, pvNilI, tis, ens, nts, Tryd.results10]
    exact Reif.dat rfl

end Go.Proofs.YtbikgbnhngmohaaDoor
