/- Lemmas for the statement of this claim, part F04: they hold with no conditions but those that each one names. -/
import Derived.Test.YtboolnpmlmgpkaaGreatDoorF03
import Derived.Test.YtboolnpmlmgpkaaGreatDoorA10
import Derived.Test.YtboolnpmlmgpkaaGreatDoorA11
set_option linter.unusedVariables false
set_option maxRecDepth 20000
set_option linter.unusedSimpArgs false
set_option linter.unnecessarySimpa false
namespace Go.Proofs.YtboolnpmlmgpkaaGreatDoor
open Go Go.Proofs Go.Abs
theorem zfm (s : ByteArray) (c : Int) : ∀ k : Nat, -1 ≤ Lib.lastIdx s c k ∧ Lib.lastIdx s c k < k
 | 0 => by simp [Lib.lastIdx]
 | k + 1 => by
  have := zfm s c k
  unfold Lib.lastIdx
  split <;> omega
def zh8 (a b : Int) (s : S) : Int × Int := if s.count 10 = 0 then (a, b + s.length) else (a + (s.count 10 : Nat), s.length - Lib.lastIndexByte ⟨s.toArray⟩ 10)
def zpg : Plan := .take 0 <| .take 2 <| .take 4 <| .take 6 <| .alt 1 (.alt 3 (.alt 5 (.one 7 <| .one 8 <| .one 9 <| .one 10 <| .fin) (.one 7 (.one 5 <| .one 8 <| .one 9 <| .one 10 <| .fin))) (.alt 5 (.alt 3 (.one 7 <| .one 8 <| .one 9 <| .one 10 <| .fin) (.one 7 (.alt 3 (.one 8 <| .one 9 <| .one 10 <| .fin) (.one 8 (.one 3 <| .one 9 <| .one 10 <| .fin))))) (.one 7 (.alt 3 (.one 5 <| .one 8 <| .one 9 <| .one 10 <| .fin) (.one 5 (.alt 3 (.one 8 <| .one 9 <| .one 10 <| .fin) (.one 8 (.one 3 <| .one 9 <| .one 10 <| .fin)))))))) (.alt 5 (.alt 1 (.alt 3 (.one 7 <| .one 8 <| .one 9 <| .one 10 <| .fin) (.one 7 (.alt 3 (.one 8 <| .one 9 <| .one 10 <| .fin) (.one 8 (.one 3 <| .one 9 <| .one 10 <| .fin))))) (.one 7 (.alt 1 (.alt 3 (.one 8 <| .one 9 <| .one 10 <| .fin) (.one 8 (.one 3 <| .one 9 <| .one 10 <| .fin))) (.one 8 (.one 1 <| .one 3 <| .one 9 <| .one 10 <| .fin))))) (.one 7 (.alt 1 (.alt 3 (.one 5 <| .one 8 <| .one 9 <| .one 10 <| .fin) (.one 5 (.alt 3 (.one 8 <| .one 9 <| .one 10 <| .fin) (.one 8 (.one 3 <| .one 9 <| .one 10 <| .fin))))) (.one 5 (.alt 1 (.alt 3 (.one 8 <| .one 9 <| .one 10 <| .fin) (.one 8 (.one 3 <| .one 9 <| .one 10 <| .fin))) (.one 8 (.one 1 <| .one 3 <| .one 9 <| .one 10 <| .fin)))))))
theorem zon (a b : Int) (s : S) (ha : 0 ≤ a ∧ a ≤ 1000000000) (hb : 0 ≤ b ∧ b ≤ 1000000000) (hs : s.length ≤ 1000000000) : Ev TE 208 [.agg [vi a, vi b], .str s] (.agg [vi (zh8 a b s).1, vi (zh8 a b s).2]) := by
 have hc : s.count 10 ≤ s.length := List.count_le_length
 have hl := zfm ⟨s.toArray⟩ 10 s.length
 have hl' : Lib.lastIndexByte ⟨s.toArray⟩ 10 = Lib.lastIdx ⟨s.toArray⟩ 10 s.length := rfl
 refine zh Tryz.func208 rfl (by simp [nts]) ?_
 refine za (vm ?_)
 simp only [wq.down, Nat.reduceLT, Tryz.results208]
 refine za (vm ?_)
 simp only [wq.down, seval]
 refine zb.ev (zmE s 10) rfl ?_
 simp only [wq.down, seval]
 refine za (vm ?_)
 simp only [wq.down, ↓reduceIte, Nat.reduceLT]
 refine vcB.mk (fun h0 => ?_) (fun h0 => ?_)
 ·have h0 : s.count 10 = 0 := by simpa using h0
  have w1 : IntKind.i64.wrap (b + (s.length : Int)) = b + s.length := zJ (by omega) (by omega)
  simp only [wq.down, ↓reduceIte, Nat.reduceEqDiff, Nat.reduceLT, Nat.reduceLeDiff, Nat.reduceAdd, Int.reduceToNat, Int.reduceLE, reduceCtorEq, Nat.reduceMul, w1]
  unfold zh8
  rw [if_pos h0]
  exact ⟨by decide, by decide, zo.dat rfl⟩
 ·have h0 : s.count 10 ≠ 0 := by simpa using h0
  have w1 : IntKind.i64.wrap (a + ((s.count 10 : Nat) : Int)) = a + (s.count 10 : Nat) := zJ (by omega) (by omega)
  have w2 : IntKind.i64.wrap ((s.length : Int) - Lib.lastIndexByte ⟨s.toArray⟩ 10) = s.length - Lib.lastIndexByte ⟨s.toArray⟩ 10 := zJ (by omega) (by omega)
  simp only [wq.down]
  refine za ?_
  refine zO mixed zpg (fun f' h' => f'.t 4 = .lp 1 0 ∧ f'.d = [] ∧ h' = [.cells [vi a, vi b], .cells [vi (a + (s.count 10 : Nat)), vi (s.length - Lib.lastIndexByte ⟨s.toArray⟩ 10)]]) (by decide +kernel) (by decide +kernel) ?_ ?_
  ·have hten : ((10 : UInt8).toNat : Int) = 10 := rfl
   simp only [wq.down, seval, zpg]
   repeat' apply And.intro
   all_goals try (first | decide | rfl)
   all_goals (refine zb.ev (zol s 10 hs) rfl ?_)
   all_goals (simp only [wq.down, seval, w1, w2, hten])
   all_goals trace_state
  ·rintro f h ⟨h4, hd, rfl⟩
   simp only [wq.down]
   refine vm ?_
   simp only [wq.down, seval, h4, hd]
   unfold zh8
   rw [if_neg h0]
   exact zo.dat rfl
theorem mx (a b : Int) : zly [vi a, vi b] = (True, vi (max a b)) := by
 simp only [zly, Int.max_def]
 split <;> split <;> first | rfl | (congr 2; omega)
theorem mn (a b : Int) : zlx [vi a, vi b] = (True, vi (min a b)) := by
 simp only [zlx, Int.min_def]
 split <;> split <;> first | rfl | (congr 2; omega)
def zV (s : S) (a : Int) : Int × Int := zh8 1 1 (s.take (min (max a 0) (s.length : Int)).toNat)
def zmH : Plan := .take 0 <| .take 2 <| .alt 1 (.take 4 <| .one 3 <| .take 5 <| .fin) (.one 3 (.one 1 <| .take 4 <| .take 5 <| .fin))
def zph : Plan := .take 1 <| .take 2 <| .take 4 <| .alt 0 (.alt 3 (.alt 5 (.alt 6 (.take 7 <| .alt 8 (.one 9 <| .one 10 <| .fin) (.one 9 (.one 8 <| .one 10 <| .fin))) (.one 9 (.one 6 <| .take 7 <| .one 8 <| .one 10 <| .fin))) (.one 9 (.one 5 <| .one 6 <| .take 7 <| .one 8 <| .one 10 <| .fin))) (.alt 5 (.alt 3 (.alt 6 (.take 7 <| .alt 8 (.one 9 <| .one 10 <| .fin) (.one 9 (.one 8 <| .one 10 <| .fin))) (.one 9 (.one 6 <| .take 7 <| .one 8 <| .one 10 <| .fin))) (.one 9 (.one 3 <| .one 6 <| .take 7 <| .one 8 <| .one 10 <| .fin))) (.one 9 (.alt 3 (.one 5 <| .one 6 <| .take 7 <| .one 8 <| .one 10 <| .fin) (.one 5 (.one 3 <| .one 6 <| .take 7 <| .one 8 <| .one 10 <| .fin)))))) (.alt 3 (.alt 0 (.alt 5 (.alt 6 (.take 7 <| .alt 8 (.one 9 <| .one 10 <| .fin) (.one 9 (.one 8 <| .one 10 <| .fin))) (.one 9 (.one 6 <| .take 7 <| .one 8 <| .one 10 <| .fin))) (.one 9 (.one 5 <| .one 6 <| .take 7 <| .one 8 <| .one 10 <| .fin))) (.alt 5 (.alt 0 (.alt 6 (.take 7 <| .alt 8 (.one 9 <| .one 10 <| .fin) (.one 9 (.one 8 <| .one 10 <| .fin))) (.one 9 (.one 6 <| .take 7 <| .one 8 <| .one 10 <| .fin))) (.alt 6 (.take 7 <| .alt 0 (.alt 8 (.one 9 <| .one 10 <| .fin) (.one 9 (.one 8 <| .one 10 <| .fin))) (.one 9 (.one 0 <| .one 8 <| .one 10 <| .fin))) (.one 9 (.alt 0 (.one 6 <| .take 7 <| .one 8 <| .one 10 <| .fin) (.one 6 (.take 7 <| .one 0 <| .one 8 <| .one 10 <| .fin)))))) (.one 9 (.alt 0 (.one 5 <| .one 6 <| .take 7 <| .one 8 <| .one 10 <| .fin) (.one 5 (.alt 0 (.one 6 <| .take 7 <| .one 8 <| .one 10 <| .fin) (.one 6 (.take 7 <| .one 0 <| .one 8 <| .one 10 <| .fin)))))))) (.alt 5 (.alt 0 (.alt 3 (.alt 6 (.take 7 <| .alt 8 (.one 9 <| .one 10 <| .fin) (.one 9 (.one 8 <| .one 10 <| .fin))) (.one 9 (.one 6 <| .take 7 <| .one 8 <| .one 10 <| .fin))) (.one 9 (.one 3 <| .one 6 <| .take 7 <| .one 8 <| .one 10 <| .fin))) (.alt 3 (.alt 0 (.alt 6 (.take 7 <| .alt 8 (.one 9 <| .one 10 <| .fin) (.one 9 (.one 8 <| .one 10 <| .fin))) (.one 9 (.one 6 <| .take 7 <| .one 8 <| .one 10 <| .fin))) (.alt 6 (.take 7 <| .alt 0 (.alt 8 (.one 9 <| .one 10 <| .fin) (.one 9 (.one 8 <| .one 10 <| .fin))) (.one 9 (.one 0 <| .one 8 <| .one 10 <| .fin))) (.one 9 (.alt 0 (.one 6 <| .take 7 <| .one 8 <| .one 10 <| .fin) (.one 6 (.take 7 <| .one 0 <| .one 8 <| .one 10 <| .fin)))))) (.one 9 (.alt 0 (.one 3 <| .one 6 <| .take 7 <| .one 8 <| .one 10 <| .fin) (.one 3 (.alt 0 (.one 6 <| .take 7 <| .one 8 <| .one 10 <| .fin) (.one 6 (.take 7 <| .one 0 <| .one 8 <| .one 10 <| .fin)))))))) (.one 9 (.alt 0 (.alt 3 (.one 5 <| .one 6 <| .take 7 <| .one 8 <| .one 10 <| .fin) (.one 5 (.one 3 <| .one 6 <| .take 7 <| .one 8 <| .one 10 <| .fin))) (.alt 3 (.alt 0 (.one 5 <| .one 6 <| .take 7 <| .one 8 <| .one 10 <| .fin) (.one 5 (.alt 0 (.one 6 <| .take 7 <| .one 8 <| .one 10 <| .fin) (.one 6 (.take 7 <| .one 0 <| .one 8 <| .one 10 <| .fin))))) (.one 5 (.alt 0 (.one 3 <| .one 6 <| .take 7 <| .one 8 <| .one 10 <| .fin) (.one 3 (.alt 0 (.one 6 <| .take 7 <| .one 8 <| .one 10 <| .fin) (.one 6 (.take 7 <| .one 0 <| .one 8 <| .one 10 <| .fin)))))))))))
set_option maxHeartbeats 8000000 in
theorem zmI (s : S) (a : Int) (hs : s.length ≤ 1000000000) : Ev TE 170 [.str s, vi a] (.tup [vi (zV s a).1, vi (zV s a).2]) := by
 refine zh Tryz.func170 rfl (by simp [nts]) ?_
 refine za (vm ?_)
 simp only [wq.down, Nat.reduceLT, Tryz.results170]
 refine za (vm ?_)
 refine zO mixed zph (fun f' h' => f'.t 6 = .lp 0 0 ∧ f'.d = [] ∧ h' = [.cells [vi (zV s a).1, vi (zV s a).2]]) (by decide +kernel) (by decide +kernel) ?_ ?_
 ·have hm : 0 ≤ min (max a 0) (s.length : Int) ∧ min (max a 0) (s.length : Int) ≤ s.length := by omega
  have hov := zon 1 1 (s.take (min (max a 0) (s.length : Int)).toNat) (by decide) (by decide) (by rw [List.length_take]; omega)
  simp only [wq.down, seval, zph, gl0, zl5, mx, mn]
  repeat' apply And.intro
  all_goals try omega
  all_goals (refine zb.ev hov rfl ?_)
  all_goals (simp only [wq.down, ↓reduceIte, Nat.reduceEqDiff, Nat.reduceLT, Nat.reduceAdd])
  all_goals rfl
 ·rintro f h ⟨h6, hd, rfl⟩
  refine za ?_
  refine zO mixed zmH (fun f' h' => f'.t 4 = vi (zV s a).1 ∧ f'.t 5 = vi (zV s a).2 ∧ f'.d = []) (by decide +kernel) (by decide +kernel) ?_ ?_
  ·simp only [wq.down, ↓reduceIte, Nat.reduceEqDiff, Nat.reduceLT, Nat.reduceLeDiff, Nat.reduceAdd, Int.reduceToNat, Int.reduceLE, Nat.reduceMul, zmH, h6, hd]
   exact ⟨by decide, by decide⟩
  ·rintro f h ⟨h4, h5, hd⟩
   simp only [wq.down]
   refine vm ?_
   simp only [wq.down, h4, h5, hd]
   exact zo.dat rfl
def zL (s : S) (a e : Int) : V := if e = 0 then .agg [vi 0, vi 0, vi 0] else .agg [vi e, vi (zV s a).1, vi (zV s a).2]
theorem zjQ (s : S) (a e : Int) (hs : s.length ≤ 1000000000) : Ev TE 97 [.str s, vi a, vi e] (zL s a e) := by
 unfold zL
 refine zh Tryz.func97 rfl (by simp [nts]) (vm ?_)
 simp only [wq.down, seval, Tryz.results97]
 refine vcB.mk (fun hc => ?_) (fun hc => ?_)
 ·have hc : e = 0 := by simpa using hc
  simp only [wq.down, seval]
  rw [if_pos hc]
  exact zo.dat rfl
 ·have hc : e ≠ 0 := by simpa using hc
  simp only [wq.down, seval]
  refine zb.ev (zmI s a hs) rfl ?_
  simp only [wq.down, seval]
  rw [if_neg hc]
  exact zo.dat rfl
theorem zjb : zjD P 38 [.i64, .i64, .i64] := by
 refine ⟨by kernel_rfl, fun w xs ys hx hy => ?_⟩
 match xs, hx with
 | [a, b, c], _ =>
 match ys, hy with
 | [a', b', c'], _ =>
 have p0 : ∀ (x y z : Value), (part 31 #[x, y, z] 0).run P w = .ok x w := fun x y z => zbg Tryz.underlying31 (by simp)
 have p1 : ∀ (x y z : Value), (part 3 #[x, y, z] 1).run P w = .ok y w := fun x y z => zbg Tryz.underlying3 (by simp)
 have p2 : ∀ (x y z : Value), (part 3 #[x, y, z] 2).run P w = .ok z w := fun x y z => zbg Tryz.underlying3 (by simp)
 have hso : P.stoodInHeld 38 = false := by kernel_rfl
 show (Op.equalIn 10000 38 (.agg #[.int .i64 a, .int .i64 b, .int .i64 c]) (.agg #[.int .i64 a', .int .i64 b', .int .i64 c'])).run P w = .ok ([a, b, c] == [a', b', c']) w
 rw [Op.equalIn]
 have e31 := zcn (P := P) (w := w) Tryz.underlying31 9998
 have e3 := zcn (P := P) (w := w) Tryz.underlying3 9998
 simp only [Sem.run_bind, run_underlying Tryz.underlying38, Result.andThen]
 by_cases ha : a = a'
 ·subst ha
  by_cases hb : b = b'
  ·subst hb
   by_cases hc : c = c'
   ·subst hc
    simp [hso, p0, p1, p2, e31, e3, Sem.run_bind, Result.andThen]
   ·have hc' : (c == c') = false := by simpa using hc
    simp [hso, p0, p1, p2, e31, e3, Sem.run_bind, Result.andThen, hc', hc]
  ·have hb' : (b == b') = false := by simpa using hb
   simp [hso, p0, p1, p2, e31, e3, Sem.run_bind, Result.andThen, hb', hb]
 ·have ha' : (a == a') = false := by simpa using ha
  simp [hso, p0, p1, p2, e31, e3, Sem.run_bind, Result.andThen, ha', ha]
theorem zfn {s : S} {a : Nat} {c : UInt8} (h : zdj s a c = true) : a < s.length := by
 unfold zdj at h
 simp only [beq_iff_eq] at h
 exact (List.getElem?_eq_some_iff.1 h).1
theorem zsM {c : Cl} : (zr c).dat = true := by simp only [V.dat, zd2]
theorem zmJ (a b : List Int) : Ev TE 78 [zr a, zr b] (.bool (a == b)) := by
 refine Ev.bnd fun hb => ?_
 have hlen := zgS hb
 refine zh Tryz.func78 rfl (by simp [nts]) (vm ?_)
 simp only [wq.down, seval, Tryz.results78]
 refine vcB.mk (fun hc => ?_) (fun hc => ?_)
 ·simp only [wq.down, seval]
  refine zB rfl ?_
  simp only [bne_iff_ne, ne_eq, Int.natCast_inj] at hc
  have : ¬ a = b := fun h => hc (by rw [h])
  simp [this]
 ·have hl : a.length = b.length := by simpa [Int.natCast_inj] using hc
  simp only [wq.down, seval]
  refine zw (fun m f h => ∃ i, m + i = a.length ∧ f.t 0 = zr a ∧ f.t 1 = zr b ∧ f.t 12 = .int .i64 (a.length : Int) ∧ f.t 13 = .int .i64 (i : Int) ∧ f.d = [] ∧ a.take i = b.take i) a.length ⟨0, by simp, rfl, rfl, rfl, rfl, rfl, by simp⟩ ?_
  rintro m f h ⟨i, hm, h0, h1, h12, h13, hd, hall⟩
  refine vm ?_
  simp only [wq.down, seval, h12, h13]
  refine vcB.mk (fun hc => ?_) (fun hc => ?_)
  ·simp only [decide_eq_true_eq, Int.ofNat_lt] at hc
   have hc2 : i < b.length := by omega
   simp only [wq.down, seval, h0, h1, h13, ziY hc, ziY hc2]
   refine ⟨by decide +kernel, ⟨by omega, by omega⟩, ⟨by omega, by omega⟩, vcB.mk (fun hc => ?_) (fun hc => ?_)⟩
   ·simp only [wq.down, seval, hd]
    refine zB rfl ?_
    have : ¬ a = b := fun h => by subst h; simp at hc
    simp [this]
   ·simp only [wq.down, seval, h13, zm (show i < maxLen by omega)]
    exact .inl ⟨m - 1, by omega, i + 1, by omega, h0, h1, h12, rfl, hd, zgT hall (by omega) (by omega) (by simpa using hc)⟩
  ·simp only [decide_eq_false_iff_not, Int.ofNat_lt] at hc
   simp only [wq.down, seval, hd]
   refine zB rfl ?_
   rw [List.take_of_length_le (by omega), List.take_of_length_le (by omega)] at hall
   simp [hall]
structure Ans where
 res : Int
 vals : List Bool
 conf : Int
 ln : List Cl
def Ans.v (a : Ans) : V := .agg [vi a.res, zsg a.vals, vi a.conf, cls a.ln]
def Wi.same (w u : Wi) : Bool := (w.bad == u.bad) && ((w.st == u.st) && (w.steps == u.steps))
def Gr.few (g : Gr) : Bool := (decide (g.ins ≤ 100) || decide (4000 < g.ins)) && (decide ((g.next.length : Int) ≤ 40) && (decide ((g.init.length : Int) ≤ 40) && (decide ((g.ands.length : Int) ≤ 60) && decide ((g.outs.length : Int) ≤ 60))))
set_option maxHeartbeats 4000000 in
theorem zjR (g : Gr) : Ev TE 29 [g.v] (.bool g.few) := by
 unfold Gr.few Gr.v
 refine zh Tryz.func29 rfl (by simp [nts]) (vm ?_)
 cases h1 : decide (g.ins ≤ 100) with
 | true =>
  cases h3 : decide ((g.next.length : Int) ≤ 40) with
  | false =>
   simp only [wq.down, seval, Tryz.results29, h1, h3]
   repeat (refine ⟨.bool true, ?_⟩; simp only [wq.down, seval, zg, Tryz.results29, h1, h3])
   exact zo.dat rfl
  | true =>
   cases h4 : decide ((g.init.length : Int) ≤ 40) with
   | false =>
    simp only [wq.down, seval, Tryz.results29, h1, h3, h4]
    repeat (refine ⟨.bool true, ?_⟩; simp only [wq.down, seval, zg, Tryz.results29, h1, h3, h4])
    exact zo.dat rfl
   | true =>
    cases h5 : decide ((g.ands.length : Int) ≤ 60) with
    | false =>
     simp only [wq.down, seval, Tryz.results29, h1, h3, h4, h5]
     repeat (refine ⟨.bool true, ?_⟩; simp only [wq.down, seval, zg, Tryz.results29, h1, h3, h4, h5])
     exact zo.dat rfl
    | true =>
     cases h6 : decide ((g.outs.length : Int) ≤ 60) with
     | false =>
      simp only [wq.down, seval, Tryz.results29, h1, h3, h4, h5, h6]
      repeat (refine ⟨.bool true, ?_⟩; simp only [wq.down, seval, zg, Tryz.results29, h1, h3, h4, h5, h6])
      exact zo.dat rfl
     | true =>
      simp only [wq.down, seval, Tryz.results29, h1, h3, h4, h5, h6]
      repeat (refine ⟨.bool true, ?_⟩; simp only [wq.down, seval, zg, Tryz.results29, h1, h3, h4, h5, h6])
      exact zo.dat rfl
 | false =>
  cases h2 : decide (4000 < g.ins) with
  | false =>
   simp only [wq.down, seval, Tryz.results29, h1, h2]
   repeat (refine ⟨.bool true, ?_⟩; simp only [wq.down, seval, zg, Tryz.results29, h1, h2])
   exact zo.dat rfl
  | true =>
   cases h3 : decide ((g.next.length : Int) ≤ 40) with
   | false =>
    simp only [wq.down, seval, Tryz.results29, h1, h2, h3]
    repeat (refine ⟨.bool true, ?_⟩; simp only [wq.down, seval, zg, Tryz.results29, h1, h2, h3])
    exact zo.dat rfl
   | true =>
    cases h4 : decide ((g.init.length : Int) ≤ 40) with
    | false =>
     simp only [wq.down, seval, Tryz.results29, h1, h2, h3, h4]
     repeat (refine ⟨.bool true, ?_⟩; simp only [wq.down, seval, zg, Tryz.results29, h1, h2, h3, h4])
     exact zo.dat rfl
    | true =>
     cases h5 : decide ((g.ands.length : Int) ≤ 60) with
     | false =>
      simp only [wq.down, seval, Tryz.results29, h1, h2, h3, h4, h5]
      repeat (refine ⟨.bool true, ?_⟩; simp only [wq.down, seval, zg, Tryz.results29, h1, h2, h3, h4, h5])
      exact zo.dat rfl
     | true =>
      cases h6 : decide ((g.outs.length : Int) ≤ 60) with
      | false =>
       simp only [wq.down, seval, Tryz.results29, h1, h2, h3, h4, h5, h6]
       repeat (refine ⟨.bool true, ?_⟩; simp only [wq.down, seval, zg, Tryz.results29, h1, h2, h3, h4, h5, h6])
       exact zo.dat rfl
      | true =>
       simp only [wq.down, seval, Tryz.results29, h1, h2, h3, h4, h5, h6]
       repeat (refine ⟨.bool true, ?_⟩; simp only [wq.down, seval, zg, Tryz.results29, h1, h2, h3, h4, h5, h6])
       exact zo.dat rfl
def Mo.few (m : Mo) : Bool := m.g.few && (zkT 40 m.ins && (zkT 40 m.lat && zkT 60 m.out))
theorem zoo (m : Mo) : Ev TE 15 [m.v] (.bool m.few) := by
 have h09 := zjR m.g
 unfold Mo.few Mo.v
 unfold Gr.v at h09
 refine zh Tryz.func15 rfl (by simp [nts]) (vm ?_)
 simp only [wq.down, seval, Tryz.results15]
 refine zb.ev h09 rfl ?_
 simp only [wq.down, seval]
 refine zb.ev (zfg m.ins 40) rfl ?_
 simp only [wq.down, seval]
 refine zb.ev (zfg m.lat 40) rfl ?_
 simp only [wq.down, seval]
 refine zb.ev (zfg m.out 60) rfl ?_
 cases m.g.few <;> cases zkT 40 m.ins <;> cases zkT 40 m.lat <;> cases zkT 60 m.out
 all_goals
  simp only [wq.down, seval]
  repeat (refine ⟨.bool true, ?_⟩; simp only [wq.down, seval, zg, Tryz.results15])
  exact zo.dat rfl
def Wi.few (w : Wi) : Bool := decide ((w.steps.length : Int) ≤ 42) && (decide ((w.st.length : Int) ≤ 60) && w.steps.all fun l => decide (l.length ≤ 60))
abbrev k22 : Mo := ⟨⟨1, [], [], [], [2]⟩, [[97]], [], [[121]]⟩
theorem zjc {vs vs' : List V} (h : zaq vs vs') : VLe (.agg vs) (.agg vs') := fun c x hx => by
 simp only [VRel] at hx ⊢
 obtain ⟨cs, h1, h2⟩ := hx
 exact ⟨cs, h1, h _ _ h2⟩
end Go.Proofs.YtboolnpmlmgpkaaGreatDoor
