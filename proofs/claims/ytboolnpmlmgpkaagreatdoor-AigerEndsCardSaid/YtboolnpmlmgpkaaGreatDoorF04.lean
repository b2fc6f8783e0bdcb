/- Lemmas for the statement of this claim, part F04: they hold with no conditions but those that each one names. -/
import Derived.Test.YtboolnpmlmgpkaaGreatDoorF03
import Derived.Test.YtboolnpmlmgpkaaGreatDoorA10
set_option linter.unusedVariables false
set_option maxRecDepth 20000
set_option linter.unusedSimpArgs false
set_option linter.unnecessarySimpa false
namespace Go.Proofs.YtboolnpmlmgpkaaGreatDoor
open Go Go.Proofs Go.Abs
theorem zxA {c : Cl} : (zy c).dat = true := by simp only [V.dat, zfI]
theorem zpk (a b : List Int) : Ev TE 78 [zy a, zy b] (.bool (a == b)) := by
 refine Ev.bnd fun hb => ?_
 have hlen := zk9 hb
 refine zl Tryz.func78 rfl (by simp [nts]) (vm ?_)
 simp only [wq.down, seval, Tryz.results78]
 refine vcB.mk (fun hc => ?_) (fun hc => ?_)
 ·simp only [wq.down, seval]
  refine zH rfl ?_
  simp only [bne_iff_ne, ne_eq, Int.natCast_inj] at hc
  have : ¬ a = b := fun h => hc (by rw [h])
  simp [this]
 ·have hl : a.length = b.length := by simpa [Int.natCast_inj] using hc
  simp only [wq.down, seval]
  refine zt (fun m f h => ∃ i, m + i = a.length ∧ f.t 0 = zy a ∧ f.t 1 = zy b ∧ f.t 12 = .int .i64 (a.length : Int) ∧ f.t 13 = .int .i64 (i : Int) ∧ f.d = [] ∧ a.take i = b.take i) a.length ⟨0, by simp, rfl, rfl, rfl, rfl, rfl, by simp⟩ ?_
  rintro m f h ⟨i, hm, h0, h1, h12, h13, hd, hall⟩
  refine vm ?_
  simp only [wq.down, seval, h12, h13]
  refine vcB.mk (fun hc => ?_) (fun hc => ?_)
  ·simp only [decide_eq_true_eq, Int.ofNat_lt] at hc
   have hc2 : i < b.length := by omega
   simp only [wq.down, seval, h0, h1, h13, zkn hc, zkn hc2]
   refine ⟨by decide +kernel, ⟨by omega, by omega⟩, ⟨by omega, by omega⟩, vcB.mk (fun hc => ?_) (fun hc => ?_)⟩
   ·simp only [wq.down, seval, hd]
    refine zH rfl ?_
    have : ¬ a = b := fun h => by subst h; simp at hc
    simp [this]
   ·simp only [wq.down, seval, h13, zi (show i < maxLen by omega)]
    exact .inl ⟨m - 1, by omega, i + 1, by omega, h0, h1, h12, rfl, hd, zhC hall (by omega) (by omega) (by simpa using hc)⟩
  ·simp only [decide_eq_false_iff_not, Int.ofNat_lt] at hc
   simp only [wq.down, seval, hd]
   refine zH rfl ?_
   rw [List.take_of_length_le (by omega), List.take_of_length_le (by omega)] at hall
   simp [hall]
structure Ans where
 res : Int
 vals : List Bool
 conf : Int
 ln : List Cl
def Ans.v (a : Ans) : V := .agg [vi a.res, zw1 a.vals, vi a.conf, cls a.ln]
def Wi.same (w u : Wi) : Bool := (w.bad == u.bad) && ((w.st == u.st) && (w.steps == u.steps))
def Gr.few (g : Gr) : Bool := (decide (g.ins ≤ 100) || decide (4000 < g.ins)) && (decide ((g.next.length : Int) ≤ 40) && (decide ((g.init.length : Int) ≤ 40) && (decide ((g.ands.length : Int) ≤ 60) && decide ((g.outs.length : Int) ≤ 60))))
set_option maxHeartbeats 4000000 in
theorem zsF (g : Gr) : Ev TE 29 [g.v] (.bool g.few) := by
 unfold Gr.few Gr.v
 refine zl Tryz.func29 rfl (by simp [nts]) (vm ?_)
 cases h1 : decide (g.ins ≤ 100) with
 | true =>
  cases h3 : decide ((g.next.length : Int) ≤ 40) with
  | false =>
   simp only [wq.down, seval, Tryz.results29, h1, h3]
   repeat (refine ⟨.bool true, ?_⟩; simp only [wq.down, seval, zn, Tryz.results29, h1, h3])
   exact zw.dat rfl
  | true =>
   cases h4 : decide ((g.init.length : Int) ≤ 40) with
   | false =>
    simp only [wq.down, seval, Tryz.results29, h1, h3, h4]
    repeat (refine ⟨.bool true, ?_⟩; simp only [wq.down, seval, zn, Tryz.results29, h1, h3, h4])
    exact zw.dat rfl
   | true =>
    cases h5 : decide ((g.ands.length : Int) ≤ 60) with
    | false =>
     simp only [wq.down, seval, Tryz.results29, h1, h3, h4, h5]
     repeat (refine ⟨.bool true, ?_⟩; simp only [wq.down, seval, zn, Tryz.results29, h1, h3, h4, h5])
     exact zw.dat rfl
    | true =>
     cases h6 : decide ((g.outs.length : Int) ≤ 60) with
     | false =>
      simp only [wq.down, seval, Tryz.results29, h1, h3, h4, h5, h6]
      repeat (refine ⟨.bool true, ?_⟩; simp only [wq.down, seval, zn, Tryz.results29, h1, h3, h4, h5, h6])
      exact zw.dat rfl
     | true =>
      simp only [wq.down, seval, Tryz.results29, h1, h3, h4, h5, h6]
      repeat (refine ⟨.bool true, ?_⟩; simp only [wq.down, seval, zn, Tryz.results29, h1, h3, h4, h5, h6])
      exact zw.dat rfl
 | false =>
  cases h2 : decide (4000 < g.ins) with
  | false =>
   simp only [wq.down, seval, Tryz.results29, h1, h2]
   repeat (refine ⟨.bool true, ?_⟩; simp only [wq.down, seval, zn, Tryz.results29, h1, h2])
   exact zw.dat rfl
  | true =>
   cases h3 : decide ((g.next.length : Int) ≤ 40) with
   | false =>
    simp only [wq.down, seval, Tryz.results29, h1, h2, h3]
    repeat (refine ⟨.bool true, ?_⟩; simp only [wq.down, seval, zn, Tryz.results29, h1, h2, h3])
    exact zw.dat rfl
   | true =>
    cases h4 : decide ((g.init.length : Int) ≤ 40) with
    | false =>
     simp only [wq.down, seval, Tryz.results29, h1, h2, h3, h4]
     repeat (refine ⟨.bool true, ?_⟩; simp only [wq.down, seval, zn, Tryz.results29, h1, h2, h3, h4])
     exact zw.dat rfl
    | true =>
     cases h5 : decide ((g.ands.length : Int) ≤ 60) with
     | false =>
      simp only [wq.down, seval, Tryz.results29, h1, h2, h3, h4, h5]
      repeat (refine ⟨.bool true, ?_⟩; simp only [wq.down, seval, zn, Tryz.results29, h1, h2, h3, h4, h5])
      exact zw.dat rfl
     | true =>
      cases h6 : decide ((g.outs.length : Int) ≤ 60) with
      | false =>
       simp only [wq.down, seval, Tryz.results29, h1, h2, h3, h4, h5, h6]
       repeat (refine ⟨.bool true, ?_⟩; simp only [wq.down, seval, zn, Tryz.results29, h1, h2, h3, h4, h5, h6])
       exact zw.dat rfl
      | true =>
       simp only [wq.down, seval, Tryz.results29, h1, h2, h3, h4, h5, h6]
       repeat (refine ⟨.bool true, ?_⟩; simp only [wq.down, seval, zn, Tryz.results29, h1, h2, h3, h4, h5, h6])
       exact zw.dat rfl
def Mo.few (m : Mo) : Bool := m.g.few && (znp 40 m.ins && (znp 40 m.lat && znp 60 m.out))
theorem zli (m : Mo) : Ev TE 15 [m.v] (.bool m.few) := by
 have h09 := zsF m.g
 unfold Mo.few Mo.v
 unfold Gr.v at h09
 refine zl Tryz.func15 rfl (by simp [nts]) (vm ?_)
 simp only [wq.down, seval, Tryz.results15]
 refine zb.ev h09 rfl ?_
 simp only [wq.down, seval]
 refine zb.ev (zfH m.ins 40) rfl ?_
 simp only [wq.down, seval]
 refine zb.ev (zfH m.lat 40) rfl ?_
 simp only [wq.down, seval]
 refine zb.ev (zfH m.out 60) rfl ?_
 cases m.g.few <;> cases znp 40 m.ins <;> cases znp 40 m.lat <;> cases znp 60 m.out
 all_goals
  simp only [wq.down, seval]
  repeat (refine ⟨.bool true, ?_⟩; simp only [wq.down, seval, zn, Tryz.results15])
  exact zw.dat rfl
def Wi.few (w : Wi) : Bool := decide ((w.steps.length : Int) ≤ 42) && (decide ((w.st.length : Int) ≤ 60) && w.steps.all fun l => decide (l.length ≤ 60))
abbrev k22 : Mo := ⟨⟨1, [], [], [], [2]⟩, [[97]], [], [[121]]⟩
end Go.Proofs.YtboolnpmlmgpkaaGreatDoor
