/- Lemmas for the statement of this claim, part F04: they hold with no conditions but those that each one names. -/
import Derived.Test.YtfcpapokknfeeaaGreatDoorF03
import Derived.Test.YtfcpapokknfeeaaGreatDoorA11
set_option linter.unusedVariables false
set_option maxRecDepth 20000
set_option linter.unusedSimpArgs false
set_option linter.unnecessarySimpa false
namespace Go.Proofs.YtfcpapokknfeeaaGreatDoor
open Go Go.Proofs Go.Abs
theorem zth {c : Cl} : (zo c).dat = true := by simp only [V.dat, zej]
structure Ans where
 res : Int
 vals : List Bool
 conf : Int
 ln : List Cl
def Ans.v (a : Ans) : V := .agg [vi a.res, zjc a.vals, vi a.conf, cls a.ln]
def Wi.same (w u : Wi) : Bool := (w.bad == u.bad) && ((w.st == u.st) && (w.steps == u.steps))
def Gr.few (g : Gr) : Bool := (decide (g.ins ≤ 100) || decide (4000 < g.ins)) && (decide ((g.next.length : Int) ≤ 40) && (decide ((g.init.length : Int) ≤ 40) && (decide ((g.ands.length : Int) ≤ 60) && decide ((g.outs.length : Int) ≤ 60))))
set_option maxHeartbeats 4000000 in
theorem zoO (g : Gr) : Ev TE 23 [g.v] (.bool g.few) := by
 unfold Gr.few Gr.v
 refine zh Tryz.func23 rfl (by simp [nts]) (vm ?_)
 cases h1 : decide (g.ins ≤ 100) with
 | true =>
  cases h3 : decide ((g.next.length : Int) ≤ 40) with
  | false =>
   simp only [wq.down, seval, Tryz.results23, h1, h3]
   repeat (refine ⟨.bool true, ?_⟩; simp only [wq.down, seval, zg, Tryz.results23, h1, h3])
   exact zn.dat rfl
  | true =>
   cases h4 : decide ((g.init.length : Int) ≤ 40) with
   | false =>
    simp only [wq.down, seval, Tryz.results23, h1, h3, h4]
    repeat (refine ⟨.bool true, ?_⟩; simp only [wq.down, seval, zg, Tryz.results23, h1, h3, h4])
    exact zn.dat rfl
   | true =>
    cases h5 : decide ((g.ands.length : Int) ≤ 60) with
    | false =>
     simp only [wq.down, seval, Tryz.results23, h1, h3, h4, h5]
     repeat (refine ⟨.bool true, ?_⟩; simp only [wq.down, seval, zg, Tryz.results23, h1, h3, h4, h5])
     exact zn.dat rfl
    | true =>
     cases h6 : decide ((g.outs.length : Int) ≤ 60) with
     | false =>
      simp only [wq.down, seval, Tryz.results23, h1, h3, h4, h5, h6]
      repeat (refine ⟨.bool true, ?_⟩; simp only [wq.down, seval, zg, Tryz.results23, h1, h3, h4, h5, h6])
      exact zn.dat rfl
     | true =>
      simp only [wq.down, seval, Tryz.results23, h1, h3, h4, h5, h6]
      repeat (refine ⟨.bool true, ?_⟩; simp only [wq.down, seval, zg, Tryz.results23, h1, h3, h4, h5, h6])
      exact zn.dat rfl
 | false =>
  cases h2 : decide (4000 < g.ins) with
  | false =>
   simp only [wq.down, seval, Tryz.results23, h1, h2]
   repeat (refine ⟨.bool true, ?_⟩; simp only [wq.down, seval, zg, Tryz.results23, h1, h2])
   exact zn.dat rfl
  | true =>
   cases h3 : decide ((g.next.length : Int) ≤ 40) with
   | false =>
    simp only [wq.down, seval, Tryz.results23, h1, h2, h3]
    repeat (refine ⟨.bool true, ?_⟩; simp only [wq.down, seval, zg, Tryz.results23, h1, h2, h3])
    exact zn.dat rfl
   | true =>
    cases h4 : decide ((g.init.length : Int) ≤ 40) with
    | false =>
     simp only [wq.down, seval, Tryz.results23, h1, h2, h3, h4]
     repeat (refine ⟨.bool true, ?_⟩; simp only [wq.down, seval, zg, Tryz.results23, h1, h2, h3, h4])
     exact zn.dat rfl
    | true =>
     cases h5 : decide ((g.ands.length : Int) ≤ 60) with
     | false =>
      simp only [wq.down, seval, Tryz.results23, h1, h2, h3, h4, h5]
      repeat (refine ⟨.bool true, ?_⟩; simp only [wq.down, seval, zg, Tryz.results23, h1, h2, h3, h4, h5])
      exact zn.dat rfl
     | true =>
      cases h6 : decide ((g.outs.length : Int) ≤ 60) with
      | false =>
       simp only [wq.down, seval, Tryz.results23, h1, h2, h3, h4, h5, h6]
       repeat (refine ⟨.bool true, ?_⟩; simp only [wq.down, seval, zg, Tryz.results23, h1, h2, h3, h4, h5, h6])
       exact zn.dat rfl
      | true =>
       simp only [wq.down, seval, Tryz.results23, h1, h2, h3, h4, h5, h6]
       repeat (refine ⟨.bool true, ?_⟩; simp only [wq.down, seval, zg, Tryz.results23, h1, h2, h3, h4, h5, h6])
       exact zn.dat rfl
def Mo.few (m : Mo) : Bool := m.g.few && (zk7 40 m.ins && (zk7 40 m.lat && zk7 60 m.out))
theorem zoP (m : Mo) : Ev TE 7 [m.v] (.bool m.few) := by
 have h09 := zoO m.g
 unfold Mo.few Mo.v
 unfold Gr.v at h09
 refine zh Tryz.func7 rfl (by simp [nts]) (vm ?_)
 simp only [wq.down, seval, Tryz.results7]
 refine zb.ev h09 rfl ?_
 simp only [wq.down, seval]
 refine zb.ev (zft m.ins 40) rfl ?_
 simp only [wq.down, seval]
 refine zb.ev (zft m.lat 40) rfl ?_
 simp only [wq.down, seval]
 refine zb.ev (zft m.out 60) rfl ?_
 cases m.g.few <;> cases zk7 40 m.ins <;> cases zk7 40 m.lat <;> cases zk7 60 m.out
 all_goals
  simp only [wq.down, seval]
  repeat (refine ⟨.bool true, ?_⟩; simp only [wq.down, seval, zg, Tryz.results7])
  exact zn.dat rfl
def Wi.few (w : Wi) : Bool := decide ((w.steps.length : Int) ≤ 42) && (decide ((w.st.length : Int) ≤ 60) && w.steps.all fun l => decide (l.length ≤ 60))
abbrev k22 : Mo := ⟨⟨1, [], [], [], [2]⟩, [[97]], [], [[121]]⟩
theorem zjp {vs vs' : List V} (h : zar vs vs') : VLe (.agg vs) (.agg vs') := fun c x hx => by
 simp only [VRel] at hx ⊢
 obtain ⟨cs, h1, h2⟩ := hx
 exact ⟨cs, h1, h _ _ h2⟩
end Go.Proofs.YtfcpapokknfeeaaGreatDoor
