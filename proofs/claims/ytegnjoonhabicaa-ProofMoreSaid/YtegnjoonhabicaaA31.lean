/- Abstract values, heaps and frames over the calculus, part 31. -/
import Derived.Test.YtegnjoonhabicaaA30
set_option linter.unusedVariables false
namespace Go.Abs
open Go Go.RowKit
section
variable {e : E} {h : H}

/-- All local objects are forgotten. -/
theorem awp_forget {n : Nat} {r : Option Nat} {c : Code} {Q : XE → Fr → H → Prop} {f : Fr} (hd : f.d = []) (hw : awp e n r c Q { t := fun i => (f.t i).drop fun _ => true, d := [], k := fun _ => true } []) : awp e n r c Q f h := by
  intro ok pl0 w0 pl w a s
  have kp := s.kp
  refine hw ok pl0 w0 (fun _ => none) w a ⟨s.hs.lend, ⟨kp.os, kp.tape, kp.output, kp.size, kp.same, fun i b hi => (by cases hi), fun i b hi => (by cases hi), kp.row⟩, s.size, fun i => ?_, ?_⟩
  · refine VRel.mdrop (c := cx ok pl w) (p := fun _ => true) ?_ _ _ (s.val i)
    exact ⟨fun b hb hok => ⟨⟨hok.1, fun i hi => (by cases hi)⟩, rfl⟩, fun i b hi => (by cases hi), fun b arr el fz hb => ⟨arr, fz, hb, rfl⟩⟩
  · have := s.dfr
    rw [hd] at this
    exact this
end
end Go.Abs
