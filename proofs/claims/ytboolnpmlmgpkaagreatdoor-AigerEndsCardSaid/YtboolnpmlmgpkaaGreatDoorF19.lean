/- Lemmas for the statement of this claim, part F19: they hold with no conditions but those that each one names. -/
import Derived.Test.YtboolnpmlmgpkaaGreatDoorF18
import Derived.Test.YtboolnpmlmgpkaaGreatDoorF09
import Derived.Test.YtboolnpmlmgpkaaGreatDoorF04
import Derived.Test.YtboolnpmlmgpkaaGreatDoorF10
set_option linter.unusedVariables false
set_option maxRecDepth 20000
set_option linter.unusedSimpArgs false
set_option linter.unnecessarySimpa false
namespace Go.Proofs.YtboolnpmlmgpkaaGreatDoor
open Go Go.Proofs Go.Abs Go.RowKit
theorem zvh : zic P 85 [.i64, .i64, .i64, .i64, .i64, .i64, .i64, .i64, .i64] := by
 refine ⟨by kernel_rfl, fun w xs ys hx hy => ?_⟩
 match xs, hx with
 | [a0, a1, a2, a3, a4, a5, a6, a7, a8], _ =>
 match ys, hy with
 | [b0, b1, b2, b3, b4, b5, b6, b7, b8], _ =>
 have hs : (sizeOf 3).run P w = .ok 1 w := by
  have hi : ∃ i, P.info? 3 = some i := info_of_underlying Tryz.underlying3
  obtain ⟨i, hi⟩ := hi
  rw [run_sizeOf w hi]
  have : P.cellsOf 3 = 1 := by kernel_rfl
  rw [this]
 have p0 : ∀ (x0 x1 x2 x3 x4 x5 x6 x7 x8 : Int), (part 3 #[.int .i64 x0, .int .i64 x1, .int .i64 x2, .int .i64 x3, .int .i64 x4, .int .i64 x5, .int .i64 x6, .int .i64 x7, .int .i64 x8] (0)).run P w = .ok (.int .i64 x0) w := fun x0 x1 x2 x3 x4 x5 x6 x7 x8 => zZ Tryz.underlying3 (by simp)
 have p1 : ∀ (x0 x1 x2 x3 x4 x5 x6 x7 x8 : Int), (part 3 #[.int .i64 x0, .int .i64 x1, .int .i64 x2, .int .i64 x3, .int .i64 x4, .int .i64 x5, .int .i64 x6, .int .i64 x7, .int .i64 x8] (1)).run P w = .ok (.int .i64 x1) w := fun x0 x1 x2 x3 x4 x5 x6 x7 x8 => zZ Tryz.underlying3 (by simp)
 have p2 : ∀ (x0 x1 x2 x3 x4 x5 x6 x7 x8 : Int), (part 3 #[.int .i64 x0, .int .i64 x1, .int .i64 x2, .int .i64 x3, .int .i64 x4, .int .i64 x5, .int .i64 x6, .int .i64 x7, .int .i64 x8] (2)).run P w = .ok (.int .i64 x2) w := fun x0 x1 x2 x3 x4 x5 x6 x7 x8 => zZ Tryz.underlying3 (by simp)
 have p3 : ∀ (x0 x1 x2 x3 x4 x5 x6 x7 x8 : Int), (part 3 #[.int .i64 x0, .int .i64 x1, .int .i64 x2, .int .i64 x3, .int .i64 x4, .int .i64 x5, .int .i64 x6, .int .i64 x7, .int .i64 x8] (3)).run P w = .ok (.int .i64 x3) w := fun x0 x1 x2 x3 x4 x5 x6 x7 x8 => zZ Tryz.underlying3 (by simp)
 have p4 : ∀ (x0 x1 x2 x3 x4 x5 x6 x7 x8 : Int), (part 3 #[.int .i64 x0, .int .i64 x1, .int .i64 x2, .int .i64 x3, .int .i64 x4, .int .i64 x5, .int .i64 x6, .int .i64 x7, .int .i64 x8] (4)).run P w = .ok (.int .i64 x4) w := fun x0 x1 x2 x3 x4 x5 x6 x7 x8 => zZ Tryz.underlying3 (by simp)
 have p5 : ∀ (x0 x1 x2 x3 x4 x5 x6 x7 x8 : Int), (part 3 #[.int .i64 x0, .int .i64 x1, .int .i64 x2, .int .i64 x3, .int .i64 x4, .int .i64 x5, .int .i64 x6, .int .i64 x7, .int .i64 x8] (5)).run P w = .ok (.int .i64 x5) w := fun x0 x1 x2 x3 x4 x5 x6 x7 x8 => zZ Tryz.underlying3 (by simp)
 have p6 : ∀ (x0 x1 x2 x3 x4 x5 x6 x7 x8 : Int), (part 3 #[.int .i64 x0, .int .i64 x1, .int .i64 x2, .int .i64 x3, .int .i64 x4, .int .i64 x5, .int .i64 x6, .int .i64 x7, .int .i64 x8] (6)).run P w = .ok (.int .i64 x6) w := fun x0 x1 x2 x3 x4 x5 x6 x7 x8 => zZ Tryz.underlying3 (by simp)
 have p7 : ∀ (x0 x1 x2 x3 x4 x5 x6 x7 x8 : Int), (part 3 #[.int .i64 x0, .int .i64 x1, .int .i64 x2, .int .i64 x3, .int .i64 x4, .int .i64 x5, .int .i64 x6, .int .i64 x7, .int .i64 x8] (7)).run P w = .ok (.int .i64 x7) w := fun x0 x1 x2 x3 x4 x5 x6 x7 x8 => zZ Tryz.underlying3 (by simp)
 have p8 : ∀ (x0 x1 x2 x3 x4 x5 x6 x7 x8 : Int), (part 3 #[.int .i64 x0, .int .i64 x1, .int .i64 x2, .int .i64 x3, .int .i64 x4, .int .i64 x5, .int .i64 x6, .int .i64 x7, .int .i64 x8] (8)).run P w = .ok (.int .i64 x8) w := fun x0 x1 x2 x3 x4 x5 x6 x7 x8 => zZ Tryz.underlying3 (by simp)
 show (Op.equalIn 10000 85 (.agg #[.int .i64 a0, .int .i64 a1, .int .i64 a2, .int .i64 a3, .int .i64 a4, .int .i64 a5, .int .i64 a6, .int .i64 a7, .int .i64 a8]) (.agg #[.int .i64 b0, .int .i64 b1, .int .i64 b2, .int .i64 b3, .int .i64 b4, .int .i64 b5, .int .i64 b6, .int .i64 b7, .int .i64 b8])).run P w = .ok ([a0, a1, a2, a3, a4, a5, a6, a7, a8] == [b0, b1, b2, b3, b4, b5, b6, b7, b8]) w
 have e3 := zcb (P := P) (w := w) Tryz.underlying3 9998
 rw [Op.equalIn]
 by_cases h0 : a0 = b0
 ·subst h0
  by_cases h1 : a1 = b1
  ·subst h1
   by_cases h2 : a2 = b2
   ·subst h2
    by_cases h3 : a3 = b3
    ·subst h3
     by_cases h4 : a4 = b4
     ·subst h4
      by_cases h5 : a5 = b5
      ·subst h5
       by_cases h6 : a6 = b6
       ·subst h6
        by_cases h7 : a7 = b7
        ·subst h7
         by_cases h8 : a8 = b8
         ·subst h8
          simp [run_underlying Tryz.underlying85, Std.Legacy.Range.forIn_eq_forIn_range', List.range', hs, e3, p0, p1, p2, p3, p4, p5, p6, p7, p8, Sem.run_bind, Result.andThen]
         ·have g8 : (a8 == b8) = false := by simpa using h8
          simp [run_underlying Tryz.underlying85, Std.Legacy.Range.forIn_eq_forIn_range', List.range', hs, e3, p0, p1, p2, p3, p4, p5, p6, p7, p8, Sem.run_bind, Result.andThen, g8, h8]
        ·have g7 : (a7 == b7) = false := by simpa using h7
         simp [run_underlying Tryz.underlying85, Std.Legacy.Range.forIn_eq_forIn_range', List.range', hs, e3, p0, p1, p2, p3, p4, p5, p6, p7, p8, Sem.run_bind, Result.andThen, g7, h7]
       ·have g6 : (a6 == b6) = false := by simpa using h6
        simp [run_underlying Tryz.underlying85, Std.Legacy.Range.forIn_eq_forIn_range', List.range', hs, e3, p0, p1, p2, p3, p4, p5, p6, p7, p8, Sem.run_bind, Result.andThen, g6, h6]
      ·have g5 : (a5 == b5) = false := by simpa using h5
       simp [run_underlying Tryz.underlying85, Std.Legacy.Range.forIn_eq_forIn_range', List.range', hs, e3, p0, p1, p2, p3, p4, p5, p6, p7, p8, Sem.run_bind, Result.andThen, g5, h5]
     ·have g4 : (a4 == b4) = false := by simpa using h4
      simp [run_underlying Tryz.underlying85, Std.Legacy.Range.forIn_eq_forIn_range', List.range', hs, e3, p0, p1, p2, p3, p4, p5, p6, p7, p8, Sem.run_bind, Result.andThen, g4, h4]
    ·have g3 : (a3 == b3) = false := by simpa using h3
     simp [run_underlying Tryz.underlying85, Std.Legacy.Range.forIn_eq_forIn_range', List.range', hs, e3, p0, p1, p2, p3, p4, p5, p6, p7, p8, Sem.run_bind, Result.andThen, g3, h3]
   ·have g2 : (a2 == b2) = false := by simpa using h2
    simp [run_underlying Tryz.underlying85, Std.Legacy.Range.forIn_eq_forIn_range', List.range', hs, e3, p0, p1, p2, p3, p4, p5, p6, p7, p8, Sem.run_bind, Result.andThen, g2, h2]
  ·have g1 : (a1 == b1) = false := by simpa using h1
   simp [run_underlying Tryz.underlying85, Std.Legacy.Range.forIn_eq_forIn_range', List.range', hs, e3, p0, p1, p2, p3, p4, p5, p6, p7, p8, Sem.run_bind, Result.andThen, g1, h1]
 ·have g0 : (a0 == b0) = false := by simpa using h0
  simp [run_underlying Tryz.underlying85, Std.Legacy.Range.forIn_eq_forIn_range', List.range', hs, e3, p0, p1, p2, p3, p4, p5, p6, p7, p8, Sem.run_bind, Result.andThen, g0, h0]
def wBm : Mo := ⟨⟨1, [7], [2], [(2, 4)], [6]⟩, [[97]], [[108, 48]], [[111, 48]]⟩
def wBt : S := [97, 97, 103, 32, 51, 32, 49, 32, 49, 32, 49, 32, 49, 10, 50, 10, 52, 32, 55, 32, 52, 10, 54, 10, 54, 32, 52, 32, 50, 10, 105, 48, 32, 97, 10, 108, 48, 32, 108, 48, 10, 111, 48, 32, 111, 48, 10]
def wBl : S := [105, 48, 32, 97, 10, 108, 48, 32, 108, 48, 10, 111, 48, 32, 111, 48, 10]
theorem ztx : zc6 wBm = (wBt, 0) := by
 have : (decide ((zc6 wBm).1 = wBt) && decide ((zc6 wBm).2 = 0)) = true := by decide +kernel
 simp only [Bool.and_eq_true, decide_eq_true_eq] at this
 exact Prod.ext this.1 this.2
theorem zrF : zb7 wBm = wBl := of_decide_eq_true (by decide +kernel)
theorem zty : zW wC 14 1 = .agg [vi 1, vi 2, vi 1] := by
 have : (decide ((zaw wC 14).1 = 2) && decide ((zaw wC 14).2 = 1)) = true := by decide +kernel
 simp only [Bool.and_eq_true, decide_eq_true_eq] at this
 unfold zW
 rw [if_neg (by decide), this.1, this.2]
set_option maxHeartbeats 4000000 in
theorem zg4 : Ev TE 14 [] (.bool true) := by
 have hsB : wBm.g.Sm := ⟨by decide, by decide⟩
 have e1 := zcH wA (by decide)
 unfold zaq at e1
 rw [zxi] at e1
 have e2 := zcH wB (by decide)
 unfold zaq at e2
 rw [zxj] at e2
 have e3 := zff wBm hsB
 rw [ztx] at e3
 have e4 := zcH wC (by decide)
 unfold zaq at e4
 rw [zxk] at e4
 have e5 := zrA wD [97, 105, 103] (by decide)
 unfold zkN at e5
 rw [zxl] at e5
 dsimp only at e5
 rw [show (((14 : Nat) : Nat) : Int) = 14 from rfl] at e5
 have e6 := zg3 wE [0, 0, 2, 0, 0] 0 rfl (by decide)
 unfold znN at e6
 rw [zxm] at e6
 have e7 := zkQ wBm (by decide) (by decide) (by decide) (by rw [zrF]; decide)
 rw [zrF] at e7
 dsimp only at e4
 rw [show zW wC ((14 : Nat) : Int) 1 = .agg [vi 1, vi 2, vi 1] from zty] at e4
 simp only [Mo.v, wA, wB, wC, wD, wE, wBm, zh3] at e1 e2 e3 e4 e5 e6 e7
 refine zl Tryz.func14 rfl (by simp [nts]) ?_
 refine za (vm ?_)
 simp only [wq.down, Nat.reduceLT, Tryz.results14]
 refine za (vm ?_)
 simp only [wq.down, seval]
 refine zb.ev e1 rfl ?_
 simp only [wq.down, seval]
 refine za (vm ?_)
 simp only [wq.down, seval]
 refine zb.ev e2 rfl ?_
 simp only [wq.down, seval]
 refine za (vm ?_)
 simp only [wq.down, seval]
 refine zb.ev e3 rfl ?_
 simp only [wq.down, seval]
 refine za (vm ?_)
 simp only [wq.down, seval]
 refine zb.ev e4 rfl ?_
 simp only [wq.down, seval]
 refine za (vm ?_)
 simp only [wq.down, seval]
 refine zb.ev e5 rfl ?_
 simp only [wq.down, seval]
 refine za (vm ?_)
 simp only [wq.down, seval]
 refine zb.ev e6 rfl ?_
 simp only [wq.down, ↓reduceIte, Nat.reduceEqDiff, Nat.reduceLT, Nat.reduceLeDiff, Nat.reduceAdd, Nat.reduceSub, Int.reduceToNat, Nat.reduceDiv, Int.reduceLT, Int.reduceLE, Int.reduceNeg, Int.reduceBEq, Int.reduceBNe, Int.reduceAdd, Int.reduceSub, Nat.reduceBEq, reduceCtorEq, Nat.reduceMul, zn, Tryz.results14, zS]
 refine za (vm ?_)
 simp only [wq.down, ↓reduceIte, Nat.reduceEqDiff, Nat.reduceLT, Nat.reduceLeDiff, Nat.reduceAdd, Nat.reduceSub, Int.reduceToNat, Nat.reduceDiv, Int.reduceLT, Int.reduceLE, Int.reduceNeg, Int.reduceBEq, Int.reduceBNe, Int.reduceAdd, Int.reduceSub, Nat.reduceBEq, reduceCtorEq, Nat.reduceMul, zn, Tryz.results14]
 refine vcB.mk (fun h => absurd h (by decide)) (fun _ => ?_)
 simp only [wq.down, ↓reduceIte, Nat.reduceEqDiff, Nat.reduceLT, Nat.reduceLeDiff, Nat.reduceAdd, Nat.reduceSub, Int.reduceToNat, Nat.reduceDiv, Int.reduceLT, Int.reduceLE, Int.reduceNeg, Int.reduceBEq, Int.reduceBNe, Int.reduceAdd, Int.reduceSub, Nat.reduceBEq, reduceCtorEq, Nat.reduceMul, zn, Tryz.results14]
 refine za (vm ?_)
 simp only [wq.down, ↓reduceIte, Nat.reduceEqDiff, Nat.reduceLT, Nat.reduceLeDiff, Nat.reduceAdd, Nat.reduceSub, Int.reduceToNat, Nat.reduceDiv, Int.reduceLT, Int.reduceLE, Int.reduceNeg, Int.reduceBEq, Int.reduceBNe, Int.reduceAdd, Int.reduceSub, Nat.reduceBEq, reduceCtorEq, Nat.reduceMul, zn, Tryz.results14, wBt]
 refine ⟨zb6, by decide, by decide, zb6, zb6, zvh, zb6, by decide, ⟨by decide, by decide⟩, ?_⟩
 refine zb.ev (Ev.le (zb3.cons (zar _) (zb3.cons zkl zb3.nil)) (zoV [[122], [111, 49]] [[122], [111, 49]])) rfl ?_
 simp only [wq.down, seval]
 refine ⟨zb6, ?_⟩
 refine zb.ev e7 rfl ?_
 simp only [wq.down, seval, wBl]
 refine vm ?_
 simp only [wq.down, ↓reduceIte]
 exact zw.dat rfl
theorem zvi {l : List Pr} {r : List V} (hb : V.bnds (prs l :: r)) : l.length ≤ maxLen := by
 simp only [V.bnds, V.bnd, List.length_map] at hb
 exact hb.1.1
theorem zrG (a b : List S) : Ev TE 77 [zG a, zG b] (.bool (a == b)) := by
 refine Ev.bnd fun hb => ?_
 have hlen := zdg hb
 refine zl Tryz.func77 rfl (by simp [nts]) (vm ?_)
 simp only [wq.down, seval, Tryz.results77]
 refine vcB.mk (fun hc => ?_) (fun hc => ?_)
 ·simp only [wq.down, seval]
  refine zH rfl ?_
  simp only [bne_iff_ne, ne_eq, Int.natCast_inj] at hc
  have : ¬ a = b := fun h => hc (by rw [h])
  simp [this]
 ·have hl : a.length = b.length := by simpa [Int.natCast_inj] using hc
  simp only [wq.down, seval]
  refine zt (fun m f h => ∃ i, m + i = a.length ∧ f.t 0 = zG a ∧ f.t 1 = zG b ∧ f.t 12 = .int .i64 (a.length : Int) ∧ f.t 13 = .int .i64 (i : Int) ∧ f.d = [] ∧ a.take i = b.take i) a.length ⟨0, by simp, rfl, rfl, rfl, rfl, rfl, by simp⟩ ?_
  rintro m f h ⟨i, hm, h0, h1, h12, h13, hd, hall⟩
  refine vm ?_
  simp only [wq.down, seval, h12, h13]
  refine vcB.mk (fun hc => ?_) (fun hc => ?_)
  ·simp only [decide_eq_true_eq, Int.ofNat_lt] at hc
   have hc2 : i < b.length := by omega
   simp only [wq.down, seval, h0, h1, h13, zrL hc, zrL hc2]
   refine ⟨by decide +kernel, ⟨by omega, by omega⟩, ⟨by omega, by omega⟩, vcB.mk (fun hc => ?_) (fun hc => ?_)⟩
   ·simp only [wq.down, seval, hd]
    refine zH rfl ?_
    have : ¬ a = b := fun h => by subst h; simp at hc
    simp [this]
   ·simp only [wq.down, seval, h13, zi (show i < maxLen by omega)]
    exact .inl ⟨m - 1, by omega, i + 1, by omega, h0, h1, h12, rfl, hd, zhC hall (by omega) (by omega) (by simpa using hc)⟩
  ·simp only [decide_eq_false_iff_not, Int.ofNat_lt] at hc
   simp only [wq.down, seval, hd]
   refine zH rfl ?_
   rw [List.take_of_length_le (by omega), List.take_of_length_le (by omega)] at hall
   simp [hall]
theorem zwQ (a b : List Pr) : Ev TE 79 [prs a, prs b] (.bool (a == b)) := by
 refine Ev.bnd fun hb => ?_
 have hlen := zvi hb
 refine zl Tryz.func79 rfl (by simp [nts]) (vm ?_)
 simp only [wq.down, seval, Tryz.results79]
 refine vcB.mk (fun hc => ?_) (fun hc => ?_)
 ·simp only [wq.down, seval]
  refine zH rfl ?_
  simp only [bne_iff_ne, ne_eq, Int.natCast_inj] at hc
  have : ¬ a = b := fun h => hc (by rw [h])
  simp [this]
 ·have hl : a.length = b.length := by simpa [Int.natCast_inj] using hc
  simp only [wq.down, seval]
  refine zt (fun m f h => ∃ i, m + i = a.length ∧ f.t 0 = prs a ∧ f.t 1 = prs b ∧ f.t 12 = .int .i64 (a.length : Int) ∧ f.t 13 = .int .i64 (i : Int) ∧ f.d = [] ∧ a.take i = b.take i) a.length ⟨0, by simp, rfl, rfl, rfl, rfl, rfl, by simp⟩ ?_
  rintro m f h ⟨i, hm, h0, h1, h12, h13, hd, hall⟩
  refine vm ?_
  simp only [wq.down, seval, h12, h13]
  refine vcB.mk (fun hc => ?_) (fun hc => ?_)
  ·simp only [decide_eq_true_eq, Int.ofNat_lt] at hc
   have hc2 : i < b.length := by omega
   simp only [wq.down, seval, h0, h1, h13, zeQ hc, zeQ hc2]
   refine ⟨by decide +kernel, ⟨by omega, by omega⟩, ⟨by omega, by omega⟩, zpv, vcB.mk (fun hc => ?_) (fun hc => ?_)⟩
   ·simp only [wq.down, seval, hd]
    refine zH rfl ?_
    have : ¬ a = b := fun h => by subst h; simp at hc
    simp [this]
   ·simp only [wq.down, seval, h13, zi (show i < maxLen by omega)]
    exact .inl ⟨m - 1, by omega, i + 1, by omega, h0, h1, h12, rfl, hd, zhC hall (by omega) (by omega) (by
     have hc : a[i].1 = b[i].1 ∧ a[i].2 = b[i].2 := by simpa using hc
     exact Prod.ext hc.1 hc.2)⟩
  ·simp only [decide_eq_false_iff_not, Int.ofNat_lt] at hc
   simp only [wq.down, seval, hd]
   refine zH rfl ?_
   rw [List.take_of_length_le (by omega), List.take_of_length_le (by omega)] at hall
   simp [hall]
def Gr.same (g k : Gr) : Bool := (g.ins == k.ins) && ((g.next == k.next) && ((g.init == k.init) && ((g.ands == k.ands) && (g.outs == k.outs))))
def Mo.sameB (m k : Mo) : Bool := m.g.same k.g && ((m.ins == k.ins) && ((m.lat == k.lat) && (m.out == k.out)))
theorem zeW (m : Mo) : m.sameB m = true := by simp [Mo.sameB, Gr.same]
set_option maxHeartbeats 4000000 in
theorem zg5 (g k : Gr) : Ev TE 23 [g.v, k.v] (.bool (g.same k)) := by
 have h1 := zpk g.next k.next
 have h2 := zpk g.init k.init
 have h3 := zwQ g.ands k.ands
 have h4 := zpk g.outs k.outs
 unfold Gr.v Gr.same
 obtain ⟨e0, he0⟩ : ∃ e0, e0 = (g.ins == k.ins) := ⟨_, rfl⟩
 obtain ⟨e1, he1⟩ : ∃ e1, e1 = (g.next == k.next) := ⟨_, rfl⟩
 obtain ⟨e2, he2⟩ : ∃ e2, e2 = (g.init == k.init) := ⟨_, rfl⟩
 obtain ⟨e3, he3⟩ : ∃ e3, e3 = (g.ands == k.ands) := ⟨_, rfl⟩
 obtain ⟨e4, he4⟩ : ∃ e4, e4 = (g.outs == k.outs) := ⟨_, rfl⟩
 rw [← he1] at h1
 rw [← he2] at h2
 rw [← he3] at h3
 rw [← he4] at h4
 rw [← he0, ← he1, ← he2, ← he3, ← he4]
 refine zl Tryz.func23 rfl (by simp [nts]) (vm ?_)
 simp only [wq.down, seval, Tryz.results23]
 rw [← he0]
 clear he0 he1 he2 he3 he4
 cases e0 with
 | false =>
  simp only [wq.down, seval]
  repeat (first | exact zw.dat rfl | (refine ⟨.bool false, ?_⟩; simp only [wq.down, seval]))
 | true =>
  simp only [wq.down, seval]
  refine zb.ev h1 (by simp only [V.dats, V.dat, Bool.and_self]) ?_
  simp only [wq.down, seval]
  cases e1 with
  | false =>
   simp only [wq.down, seval]
   repeat (first | exact zw.dat rfl | (refine ⟨.bool false, ?_⟩; simp only [wq.down, seval]))
  | true =>
   simp only [wq.down, seval]
   refine zb.ev h2 (by simp only [V.dats, V.dat, Bool.and_self]) ?_
   simp only [wq.down, seval]
   cases e2 with
   | false =>
    simp only [wq.down, seval]
    repeat (first | exact zw.dat rfl | (refine ⟨.bool false, ?_⟩; simp only [wq.down, seval]))
   | true =>
    simp only [wq.down, seval]
    refine zb.ev h3 (by simp only [V.dats, V.dat, Bool.and_self]) ?_
    simp only [wq.down, seval]
    cases e3 with
    | false =>
     simp only [wq.down, seval]
     repeat (first | exact zw.dat rfl | (refine ⟨.bool false, ?_⟩; simp only [wq.down]))
    | true =>
     simp only [wq.down, seval]
     refine zb.ev h4 (by simp only [V.dats, V.dat, Bool.and_self]) ?_
     simp only [wq.down, seval]
     exact zw.dat rfl
set_option maxHeartbeats 4000000 in
theorem zmQ (m k : Mo) : Ev TE 22 [m.v, k.v] (.bool (m.sameB k)) := by
 have h1 := zg5 m.g k.g
 have h2 := zrG m.ins k.ins
 have h3 := zrG m.lat k.lat
 have h4 := zrG m.out k.out
 unfold Gr.v at h1
 unfold Mo.v Mo.sameB
 obtain ⟨e0, he0⟩ : ∃ e0, e0 = m.g.same k.g := ⟨_, rfl⟩
 obtain ⟨e1, he1⟩ : ∃ e1, e1 = (m.ins == k.ins) := ⟨_, rfl⟩
 obtain ⟨e2, he2⟩ : ∃ e2, e2 = (m.lat == k.lat) := ⟨_, rfl⟩
 obtain ⟨e3, he3⟩ : ∃ e3, e3 = (m.out == k.out) := ⟨_, rfl⟩
 rw [← he0] at h1
 rw [← he1] at h2
 rw [← he2] at h3
 rw [← he3] at h4
 rw [← he0, ← he1, ← he2, ← he3]
 clear he0 he1 he2 he3
 refine zl Tryz.func22 rfl (by simp [nts]) (vm ?_)
 simp only [wq.down, seval, Tryz.results22]
 refine zb.ev h1 (by simp only [V.dats, V.dat, Bool.and_self]) ?_
 simp only [wq.down, seval]
 cases e0 with
 | false =>
  simp only [wq.down, seval]
  repeat (first | exact zw.dat rfl | (refine ⟨.bool false, ?_⟩; simp only [wq.down, seval]))
 | true =>
  simp only [wq.down, seval]
  refine zb.ev h2 (by simp only [V.dats, V.dat, Bool.and_self]) ?_
  simp only [wq.down, seval]
  cases e1 with
  | false =>
   simp only [wq.down, seval]
   repeat (first | exact zw.dat rfl | (refine ⟨.bool false, ?_⟩; simp only [wq.down, seval]))
  | true =>
   simp only [wq.down, seval]
   refine zb.ev h3 (by simp only [V.dats, V.dat, Bool.and_self]) ?_
   simp only [wq.down, seval]
   cases e2 with
   | false =>
    simp only [wq.down, seval]
    repeat (first | exact zw.dat rfl | (refine ⟨.bool false, ?_⟩; simp only [wq.down]))
   | true =>
    simp only [wq.down, seval]
    refine zb.ev h4 (by simp only [V.dats, V.dat, Bool.and_self]) ?_
    simp only [wq.down, seval]
    exact zw.dat rfl
set_option maxHeartbeats 4000000 in
theorem zrH (m : Mo) (hs : m.g.Sm) (hsn : m.chk = 0 → m.norm.g.Sm) (hlen : m.few = true → m.chk = 0 → (zbJ m.norm).length ≤ 100000) (hpa : m.chk = 0 → zaX (zbJ m.norm) = .ok m.norm) (hpp : m.chk = 0 → zc6 m.norm = (zbJ m.norm, 0)) :
 Ev TE 4 [m.v] (.bool true) := by
 have e1 := zli m
 have e2 := zff m hs
 have e3 := zgK m hs
 unfold zc6 at e2
 unfold zpu at e3
 have dm : V.dats [m.v] = true := by simp only [Mo.v, V.dats, V.dat, Bool.and_self]
 unfold Mo.v at e1 e2 dm
 rw [show (m.v) = .agg [vi m.g.ins, zy m.g.next, zy m.g.init, prs m.g.ands, zy m.g.outs, zG m.ins, zG m.lat, zG m.out] from rfl] at e3
 refine zl Tryz.func4 rfl (by simp [nts]) ?_
 unfold Mo.v
 refine za (vm ?_)
 simp only [wq.down, Nat.reduceLT, Tryz.results4]
 refine za (vm ?_)
 simp only [wq.down, Nat.reduceLT]
 refine zb.ev zg4 rfl ?_
 simp only [wq.down, seval]
 refine za (vm ?_)
 simp only [wq.down, seval]
 refine za (vm ?_)
 simp only [wq.down, seval]
 refine zb.ev e1 dm ?_
 simp only [wq.down, seval]
 obtain ⟨few, hfew⟩ : ∃ few, few = m.few := ⟨_, rfl⟩
 rw [← hfew] at hlen ⊢
 by_cases hc : m.chk = 0
 ·rw [if_pos hc] at e2 e3
  refine za (vm ?_)
  simp only [wq.down, seval]
  refine zb.ev e2 dm ?_
  simp only [wq.down, seval]
  refine za (vm ?_)
  simp only [wq.down, seval]
  refine zb.ev e3 dm ?_
  simp only [wq.down, seval]
  cases few with
  | false =>
   refine za (vm ?_)
   simp only [wq.down, seval]
   exact zw.dat rfl
  | true =>
   have e4 := zcH (zbJ m.norm) (hlen rfl hc)
   unfold zaq at e4
   rw [hpa hc] at e4
   have e5 := zff m.norm (hsn hc)
   rw [hpp hc] at e5
   have e6 := zmQ m.norm m.norm
   rw [zeW] at e6
   have dn : V.dats [m.norm.v] = true := by simp only [Mo.v, V.dats, V.dat, Bool.and_self]
   have dn2 : V.dats [m.norm.v, m.norm.v] = true := by simp only [Mo.v, V.dats, V.dat, Bool.and_self]
   unfold Mo.v at e4 e5 e6 dn dn2
   unfold Mo.v
   refine za (vm ?_)
   simp only [wq.down, seval]
   refine za (vm ?_)
   simp only [wq.down, seval]
   refine zb.ev e4 rfl ?_
   simp only [wq.down, seval]
   refine za (vm ?_)
   simp only [wq.down, seval]
   refine zb.ev e5 dn ?_
   simp only [wq.down, seval]
   refine za (vm ?_)
   simp only [wq.down, seval]
   refine ⟨zb6, ?_⟩
   refine zb.ev e6 dn2 ?_
   simp only [wq.down, seval]
   refine vm ?_
   simp only [wq.down, ↓reduceIte]
   exact zw.dat rfl
 ·rw [if_neg hc] at e2 e3
  refine za (vm ?_)
  simp only [wq.down, seval]
  refine zb.ev e2 dm ?_
  simp only [wq.down, seval]
  refine za (vm ?_)
  simp only [wq.down, seval]
  refine zb.ev e3 dm ?_
  simp only [wq.down, seval]
  have hne : (m.chk != 0) = true := by simpa using hc
  cases few with
  | false =>
   refine za (vm ?_)
   simp only [wq.down, seval]
   exact zw.dat rfl
  | true =>
   refine za (vm ?_)
   simp only [wq.down, seval, hne]
   exact zw.dat rfl
theorem za9 {g : Gr} {p : List Pr × Cl} : (zbp g p).ins = g.ins ∧ (zbp g p).next.length = g.next.length ∧ (zbp g p).outs.length = g.outs.length := by
 unfold zbp
 simp
theorem zg6 {g : Gr} : (zch g).ins = g.ins ∧ (zch g).next.length = g.next.length ∧ (zch g).outs.length = g.outs.length := by
 unfold zch
 dsimp only
 exact ⟨za9.1.trans za9.1, za9.2.1.trans za9.2.1, za9.2.2.trans za9.2.2⟩
theorem znR {m : Mo} (h : m.chk = 0) : m.g.chk = 0 := by
 unfold Mo.chk at h
 split at h
 ·exact h
 ·rename_i hn
  simpa using hn
theorem zjX {g : Gr} {use : Nat → Bool} : ∀ i, ∃ R, (zL g use i).2 = zce g.first.toNat ++ R
 | 0 => ⟨[], by simp [zL]⟩
 | i + 1 => by
  obtain ⟨R, h⟩ := zjX (g := g) (use := use) i
  unfold zL zcg
  split
  ·exact ⟨R ++ [_], by rw [← List.append_assoc, ← h]⟩
  ·exact ⟨R ++ [0], by rw [← List.append_assoc, ← h]⟩
theorem ztz {R : Cl} {n v : Nat} (h : v < n) : zai (zce n ++ R) (2 * (v : Int)) = 2 * (v : Int) := by
 unfold zai
 rw [if_neg (by omega), show (2 * (v : Int) / 2).toNat = v by omega, List.getD_eq_getElem?_getD, List.getElem?_append_left (by rw [zc5]; exact h)]
 unfold zce
 simp [h]
theorem zmR {g : Gr} {use : Nat → Bool} {k i v : Nat} (hv : (v : Int) < g.first) (ho : g.outs.getD i 0 = 2 * (v : Int)) (hi : i < g.outs.length) : (zbp g (zL g use k)).outs.getD i 0 = 2 * (v : Int) := by
 obtain ⟨R, hR⟩ := zjX (g := g) (use := use) k
 unfold zbp
 dsimp only
 rw [hR, List.getD_eq_getElem?_getD, List.getElem?_map]
 rw [List.getD_eq_getElem?_getD] at ho
 rw [List.getElem?_eq_getElem hi] at ho ⊢
 simp only [Option.map_some, Option.getD_some] at ho ⊢
 rw [ho]
 exact ztz (by omega)
theorem zrI {g : Gr} {i v : Nat} (hv : (v : Int) < g.first) (ho : g.outs.getD i 0 = 2 * (v : Int)) (hi : i < g.outs.length) : (zch g).outs.getD i 0 = 2 * (v : Int) := by
 unfold zch
 dsimp only
 refine zmR ?_ (zmR hv ho hi) (by rw [za9.2.2]; exact hi)
 unfold Gr.first
 rw [za9.1, za9.2.1]
 exact hv
theorem zdm {m : Mo} (h : m.chk = 0) : m.norm.chk = 0 := by
 have hg := znR h
 have hn : m.norm.g.chk = 0 := zaP (zaP hg _) _
 obtain ⟨l1, l2, l3⟩ := zg6 (g := m.g)
 have hl : m.norm.lens = m.lens := by
  unfold Mo.lens Mo.norm
  dsimp only
  rw [l1, l2, l3]
 have e1 : m.norm.names = m.names := rfl
 have e2 : m.norm.twos = m.twos := rfl
 have e3 : m.other m.out.length = false → m.norm.other m.out.length = false := by
  intro ho
  have hle : m.lens = false := by
   cases hle : m.lens with
   | false => rfl
   | true => unfold Mo.chk at h; rw [hg, hle] at h; simp at h
  unfold Mo.lens at hle
  simp only [Bool.or_eq_false_iff, bne_eq_false_iff_eq] at hle
  obtain ⟨⟨q1, q2⟩, q3⟩ := hle
  unfold Mo.other at ho ⊢
  rw [List.any_eq_false] at ho ⊢
  intro i hi hb
  have hb0 := ho i hi
  have hpl : m.norm.place (m.norm.out.getD i []) = m.place (m.out.getD i []) := rfl
  rw [hpl] at hb
  obtain ⟨p, hp⟩ : ∃ p, p = m.place (m.out.getD i []) := ⟨_, rfl⟩
  have hpb : p ≤ (m.ins ++ m.lat).length := by
   have := zo5 (m.ins ++ m.lat) (· == m.out.getD i [])
   rw [hp]; unfold Mo.place; split <;> omega
  rw [← hp] at hb hb0
  simp only [Bool.and_eq_true, decide_eq_true_eq, bne_iff_ne, ne_eq, not_and, Classical.not_not] at hb hb0
  have hz := hb0 hb.1
  rw [List.length_append] at hpb
  obtain ⟨v, hv⟩ : ∃ v : Nat, p = v := ⟨p.toNat, by omega⟩
  rw [hv] at hz hb
  refine hb.2 (zrI ?_ hz ?_)
  ·unfold Gr.first; omega
  ·have : i < m.out.length := by simpa using hi
   omega
 unfold Mo.chk at h ⊢
 rw [hl, e1, e2, hn]
 rw [hg] at h
 simp only [ne_eq, not_true, if_false] at h ⊢
 rw [show m.norm.out = m.out from rfl]
 repeat' split at h
 all_goals first
  | (cases h; done)
  | skip
 simp_all
theorem zvj {m : Mo} (h : m.chk = 0) : m.norm.g.Sm := by
 have hg := zM (znR (zdm h))
 have := hg.i0
 have := hg.i2
 exact ⟨by omega, by omega⟩
theorem zg7 {m : Mo} (h : m.chk = 0) : zaX (zbJ m.norm) = .ok m.norm := by
 have := zgQ (zdm h) (r := []) (.inl rfl)
 rwa [List.append_nil] at this
theorem zmS {use : Nat → Bool} : ∀ k, (∀ i, i < k → use i = true) → zdw use k = k
 | 0, _ => rfl
 | k + 1, h => by rw [zea, zmS k (fun i hi => h i (by omega)), h k (by omega)]; rfl
theorem ztA {f n v : Nat} {use : Nat → Bool} (h : ∀ i, i < n → use i = true) (hv : v < f + n) : zen f use v = v := by
 unfold zen
 split
 ·rfl
 ·rw [zmS _ (fun i hi => h i (by omega))]; omega
theorem zkR {f n : Nat} {l : Int} {use : Nat → Bool} (h : ∀ i, i < n → use i = true) (h0 : 0 ≤ l) (hv : l < 2 * ((f : Int) + n)) : reA f use l = l := by
 unfold reA
 rw [ztA h (by omega)]
 omega
theorem zrJ {g : Gr} (hg : g.chk = 0) (hga : zhJ g.ands) {use : Nat → Bool} (hu : ∀ i, i < g.ands.length → use i = true) : zbp g (zL g use g.ands.length) = g := by
 obtain ⟨_, i0, i1, i2, i3, i4, i5⟩ := zM hg
 obtain ⟨r1, r2, r3, r4⟩ := zaf i4
 have hf := zat i0
 have hfn : (g.first.toNat : Int) = g.first := by omega
 have hle : zuW g use := fun i hi _ => by
  obtain ⟨o1, o2, o3, o4⟩ := zas i5 hi
  refine ⟨?_, ?_⟩
  ·by_cases h : (g.ands[i].1 / 2).toNat < g.first.toNat
   ·exact .inl h
   ·exact .inr (hu _ (by omega))
  ·by_cases h : (g.ands[i].2 / 2).toNat < g.first.toNat
   ·exact .inl h
   ·exact .inr (hu _ (by omega))
 obtain ⟨p1, p2⟩ := zeD hg hga hle g.ands.length (Nat.le_refl _)
 have hlive : ∀ v, v < g.first.toNat + g.ands.length → zrM g.first.toNat use v := fun v hv => by
  by_cases h : v < g.first.toNat
  ·exact .inl h
  ·exact .inr (hu _ (by omega))
 have hkp : zgv g use g.ands.length = g.ands := by
  unfold zgv
  rw [List.filter_eq_self.2 (fun i hi => hu i (List.mem_range.1 hi))]
  refine List.ext_getElem (by simp) (fun i h1 h2 => ?_)
  obtain ⟨o1, o2, o3, o4⟩ := zas i5 h2
  simp only [List.getElem_map, List.getElem_range]
  rw [zA h2, zkR hu o1 (by omega), zkR hu o2 (by omega)]
 have hcm : ∀ a, 0 ≤ a → a < g.all → zai (zL g use g.ands.length).2 a = a := fun a h0 h1 => by
  unfold Gr.all at h1
  have hv : (a / 2).toNat < g.first.toNat + g.ands.length := by omega
  rw [zfc (p2 _ hv (hlive _ hv)), zkR hu h0 (by omega)]
 have hmap : ∀ l : Cl, (∀ a ∈ l, 0 ≤ a ∧ a < g.all) → l.map (zai (zL g use g.ands.length).2) = l := fun l hl => by
  conv => rhs; rw [← List.map_id l]
  exact List.map_congr_left fun a ha => hcm a (hl a ha).1 (hl a ha).2
 unfold zbp
 rw [hmap _ r3, hmap _ r4, p1, hkp]
theorem ztB {g : Gr} (hg : g.chk = 0) : zch (zch g) = zch g := by
 have hst := zeS hg
 have hx : (zbp g (zL g (fun _ => true) g.ands.length)).chk = 0 := zaP hg _
 have hy : (zch g).chk = 0 := zaP hx _
 have hga : zhJ (zch g).ands := zdj (zM hx).i0 _ _
 obtain ⟨y, hyy⟩ : ∃ y, y = zch g := ⟨_, rfl⟩
 rw [← hyy] at hst hy hga ⊢
 have h1 : zbp y (zL y (fun _ => true) y.ands.length) = y := zrJ hy hga (fun _ _ => rfl)
 unfold zch
 rw [h1]
 refine zrJ hy hga (fun i hi => ?_)
 unfold zdM at hst
 simp only [Bool.not_eq_true', List.any_eq_false, List.mem_range] at hst
 have := hst i hi
 unfold zuV at this
 simp only [Bool.or_eq_true, not_or, Bool.not_eq_true', Bool.not_eq_false] at this
 exact this.2.2.2.1
theorem znS {m : Mo} (h : m.chk = 0) : zc6 m.norm = (zbJ m.norm, 0) := by
 unfold zc6
 rw [if_pos (zdm h)]
 rw [show m.norm.norm = m.norm from by unfold Mo.norm; dsimp only; rw [ztB (znR h)]]
theorem ztC {g : Gr} (s : GSm g) {a b c d : Nat} (ha : g.ins.toNat ≤ a) (hb : g.next.length ≤ b) (hc : g.outs.length ≤ c) (hd : g.ands.length ≤ d) : (zdp g).length ≤ 60 + 12 * a + 34 * b + 12 * c + 34 * d := by
 have h0 := zb8 s.head
 have h0' : (zaY g).length = 5 := rfl
 have h1 := zcI (f := fun i : Nat => lnT [2 * ((i : Int) + 1)]) (c := 12) (n := g.ins.toNat) (fun i hi => zb8 (s.in1 hi)) g.ins.toNat (Nat.le_refl _)
 have h2 := zcI (f := fun i : Nat => lnT (znW g i)) (c := 34) (n := g.next.length) (fun i hi => by
  have := zb8 (s.la hi).1
  have := (s.la hi).2
  omega) g.next.length (Nat.le_refl _)
 have h3 := zcI (f := fun i : Nat => lnT [g.outs.getD i 0]) (c := 12) (n := g.outs.length) (fun i hi => zb8 (s.o1 hi)) g.outs.length (Nat.le_refl _)
 have h4 := zcI (f := fun i : Nat => lnT [2 * (g.first + (i : Int)), (g.ands.getD i (0, 0)).1, (g.ands.getD i (0, 0)).2]) (c := 34) (n := g.ands.length) (fun i hi => zb8 (s.a1 hi)) g.ands.length (Nat.le_refl _)
 unfold zdp ztW zi9 zja zjb
 simp only [List.length_append, List.length_cons, List.length_nil]
 omega
theorem zmT {m : Mo} (hf : m.few = true) (h : m.chk = 0) : (zbJ m.norm).length ≤ 20000 := by
 have hg := znR h
 obtain ⟨l1, l2, l3⟩ := zg6 (g := m.g)
 have hs : GSm m.norm.g := GSm.of (znR (zdm h))
 obtain ⟨_, q1, q2, q3, q4⟩ := zaW h
 unfold Mo.few at hf
 simp only [Bool.and_eq_true] at hf
 obtain ⟨f0, f1, f2, f3⟩ := hf
 unfold znp at f1 f2 f3
 unfold Gr.few at f0
 simp only [Bool.and_eq_true, decide_eq_true_eq, List.all_eq_true] at f0 f1 f2 f3
 have hx : (zbp m.g (zL m.g (fun _ => true) m.g.ands.length)).chk = 0 := zaP hg _
 have hand : m.norm.g.ands.length ≤ 60 := by
  have a1 := (za5 (zM hg).i0 (fun _ => true) m.g.ands.length).1
  have a2 := (za5 (zM hx).i0 (fun i => (zeR (zbp m.g (zL m.g (fun _ => true) m.g.ands.length))).getD ((zbp m.g (zL m.g (fun _ => true) m.g.ands.length)).first + (i : Int)).toNat false) (zbp m.g (zL m.g (fun _ => true) m.g.ands.length)).ands.length).1
  have a3 : m.norm.g.ands.length ≤ (zbp m.g (zL m.g (fun _ => true) m.g.ands.length)).ands.length := a2
  have a4 : (zbp m.g (zL m.g (fun _ => true) m.g.ands.length)).ands.length ≤ m.g.ands.length := a1
  omega
 have hle : m.lens = false := by
  cases hle : m.lens with
  | false => rfl
  | true => unfold Mo.chk at h; rw [hg, hle] at h; simp at h
 unfold Mo.lens at hle
 simp only [Bool.or_eq_false_iff, bne_eq_false_iff_eq] at hle
 obtain ⟨⟨k1, k2⟩, k3⟩ := hle
 have e1 : m.norm.g.ins = m.g.ins := l1
 have e2 : m.norm.g.next.length = m.g.next.length := l2
 have e3 : m.norm.g.outs.length = m.g.outs.length := l3
 have hb := ztC hs (a := 40) (b := 40) (c := 60) (d := 60) (by omega) (by omega) (by omega) hand
 have hn : ∀ x, x ∈ m.ins ∨ x ∈ m.lat ∨ x ∈ m.out → zba x = true := zc8 h
 have a1 := zgk (c := 105) m.ins 0 (fun x hx => zcl (hn x (.inl hx))) (by omega)
 have a2 := zgk (c := 108) m.lat 0 (fun x hx => zcl (hn x (.inr (.inl hx)))) (by omega)
 have a3 := zgk (c := 111) m.out 0 (fun x hx => zcl (hn x (.inr (.inr hx)))) (by omega)
 have ht : (zb7 m.norm).length ≤ 10000 := by
  show (nmT 105 0 m.ins ++ (nmT 108 0 m.lat ++ nmT 111 0 m.out)).length ≤ _
  simp only [List.length_append]
  omega
 unfold zbJ
 rw [List.length_append]
 omega
theorem ev_aigerBack (m : Mo) (hs : m.g.Sm) : Ev TE 4 [m.v] (.bool true) :=
 zrH m hs zvj (fun h1 h2 => Nat.le_trans (zmT h1 h2) (by decide)) zg7 znS
end Go.Proofs.YtboolnpmlmgpkaaGreatDoor
