/- Lemmas for the statement of this claim, part F04: they hold with no conditions but those that each one names. -/
import Derived.Test.YtfcpapokknfeeaaGreatDoorF03
set_option linter.unusedVariables false
set_option maxRecDepth 20000
set_option linter.unusedSimpArgs false
set_option linter.unnecessarySimpa false
namespace Go.Proofs.YtfcpapokknfeeaaGreatDoor
open Go Go.Proofs Go.Abs
def Gr.few (g : Gr) : Bool := (decide (g.ins ≤ 100) || decide (4000 < g.ins)) && (decide ((g.next.length : Int) ≤ 40) && (decide ((g.init.length : Int) ≤ 40) && (decide ((g.ands.length : Int) ≤ 60) && decide ((g.outs.length : Int) ≤ 60))))
set_option maxHeartbeats 4000000 in
theorem TC (g : Gr) : Ev TE 23 [g.v] (.bool g.few) := by
 unfold Gr.few Gr.v;refine ax Tryz.func23 rfl (by simp [nts]) (vm ?_);cases h1 : decide (g.ins ≤ 100) with
 | true =>
  cases h3 : decide ((g.next.length : Int) ≤ 40) with
  | false =>
   simp only [wq.1, seval, Tryz.results23, h1, h3]
   repeat (refine ⟨.bool true, ?_⟩; simp only [wq.1, seval, au, Tryz.results23, h1, h3])
   exact aG.dat rfl
  | true =>
   cases h4 : decide ((g.init.length : Int) ≤ 40) with
   | false =>
    simp only [wq.1, seval, Tryz.results23, h1, h3, h4]
    repeat (refine ⟨.bool true, ?_⟩; simp only [wq.1, seval, au, Tryz.results23, h1, h3, h4])
    exact aG.dat rfl
   | true =>
    cases h5 : decide ((g.ands.length : Int) ≤ 60) with
    | false =>
     simp only [wq.1, seval, Tryz.results23, h1, h3, h4, h5]
     repeat (refine ⟨.bool true, ?_⟩; simp only [wq.1, seval, au, Tryz.results23, h1, h3, h4, h5])
     exact aG.dat rfl
    | true =>
     cases h6 : decide ((g.outs.length : Int) ≤ 60) with
     | false =>
      simp only [wq.1, seval, Tryz.results23, h1, h3, h4, h5, h6]
      repeat (refine ⟨.bool true, ?_⟩; simp only [wq.1, seval, au, Tryz.results23, h1, h3, h4, h5, h6])
      exact aG.dat rfl
     | true =>
      simp only [wq.1, seval, Tryz.results23, h1, h3, h4, h5, h6]
      repeat (refine ⟨.bool true, ?_⟩; simp only [wq.1, seval, au, Tryz.results23, h1, h3, h4, h5, h6])
      exact aG.dat rfl
 | false =>
  cases h2 : decide (4000 < g.ins) with
  | false =>
   simp only [wq.1, seval, Tryz.results23, h1, h2]
   repeat (refine ⟨.bool true, ?_⟩; simp only [wq.1, seval, au, Tryz.results23, h1, h2])
   exact aG.dat rfl
  | true =>
   cases h3 : decide ((g.next.length : Int) ≤ 40) with
   | false =>
    simp only [wq.1, seval, Tryz.results23, h1, h2, h3]
    repeat (refine ⟨.bool true, ?_⟩; simp only [wq.1, seval, au, Tryz.results23, h1, h2, h3])
    exact aG.dat rfl
   | true =>
    cases h4 : decide ((g.init.length : Int) ≤ 40) with
    | false =>
     simp only [wq.1, seval, Tryz.results23, h1, h2, h3, h4]
     repeat (refine ⟨.bool true, ?_⟩; simp only [wq.1, seval, au, Tryz.results23, h1, h2, h3, h4])
     exact aG.dat rfl
    | true =>
     cases h5 : decide ((g.ands.length : Int) ≤ 60) with
     | false =>
      simp only [wq.1, seval, Tryz.results23, h1, h2, h3, h4, h5]
      repeat (refine ⟨.bool true, ?_⟩; simp only [wq.1, seval, au, Tryz.results23, h1, h2, h3, h4, h5])
      exact aG.dat rfl
     | true =>
      cases h6 : decide ((g.outs.length : Int) ≤ 60) with
      | false =>
       simp only [wq.1, seval, Tryz.results23, h1, h2, h3, h4, h5, h6]
       repeat (refine ⟨.bool true, ?_⟩; simp only [wq.1, seval, au, Tryz.results23, h1, h2, h3, h4, h5, h6])
       exact aG.dat rfl
      | true =>
       simp only [wq.1, seval, Tryz.results23, h1, h2, h3, h4, h5, h6]
       repeat (refine ⟨.bool true, ?_⟩; simp only [wq.1, seval, au, Tryz.results23, h1, h2, h3, h4, h5, h6])
       exact aG.dat rfl
def Mo.few (m : Mo) : Bool := m.g.few && (J4 40 m.ins && (J4 40 m.lat && J4 60 m.out))
theorem TD (m : Mo) : Ev TE 7 [m.v] (.bool m.few) := by
 have h09 := TC m.g;unfold Mo.few Mo.v;unfold Gr.v at h09;refine ax Tryz.func7 rfl (by simp [nts]) (vm ?_);simp only [wq.1, seval, Tryz.results7];refine ah.ev h09 rfl ?_;simp only [wq.1, seval];refine ah.ev (uB m.ins 40) rfl ?_;simp only [wq.1, seval];refine ah.ev (uB m.lat 40) rfl ?_;simp only [wq.1, seval];refine ah.ev (uB m.out 60) rfl ?_;cases m.g.few <;> cases J4 40 m.ins <;> cases J4 40 m.lat <;> cases J4 60 m.out
 all_goals
  simp only [wq.1, seval]
  repeat (refine ⟨.bool true, ?_⟩; simp only [wq.1, seval, au, Tryz.results7])
  exact aG.dat rfl
def Wi.few (w : Wi) : Bool := decide ((w.steps.length : Int) ≤ 42) && (decide ((w.st.length : Int) ≤ 60) && w.steps.all fun l => decide (l.length ≤ 60))
abbrev k22 : Mo := ⟨⟨1, [], [], [], [2]⟩, [[97]], [], [[121]]⟩
end Go.Proofs.YtfcpapokknfeeaaGreatDoor
