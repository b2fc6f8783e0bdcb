/- Functions of the program, part 16. -/
import Derived.Test.YtljpjeclnceddaaF15
import Derived.Test.YtljpjeclnceddaaA26
import Derived.Test.YtljpjeclnceddaaRows
set_option linter.unusedVariables false
set_option linter.unusedSimpArgs false
set_option linter.unnecessarySimpa false
namespace Go.Proofs.Ytljpjeclnceddaa
open Go Go.Proofs Go.Abs

theorem own : ownKnob Try.prog.godebug = none := by kernel_rfl
theorem laid : laidOutB Try.prog = true := by kernel_rfl

abbrev shTab : Sh := .struct [.slice .str, .slice .str]

theorem is_strs {v : V} (h : Sh.Is (.slice .str) v) : ∃ l : List S, v = strs l := by
  simp only [Sh.Is] at h
  obtain ⟨es, rfl, h⟩ := h
  suffices ∃ l : List S, es = l.map V.str by
    obtain ⟨l, rfl⟩ := this
    exact ⟨l, rfl⟩
  induction es with
  | nil => exact ⟨[], rfl⟩
  | cons e es ih =>
    obtain ⟨s, rfl⟩ := h e (by simp)
    obtain ⟨l, rfl⟩ := ih fun x hx => h x (by simp [hx])
    exact ⟨s :: l, rfl⟩

theorem is_tab {v : V} (h : Sh.Is shTab v) : ∃ a b : List S, v = tab a b := by
  simp only [Sh.Is, Sh.Iss] at h
  obtain ⟨vs, rfl, u1, us, rfl, h1, u2, us2, rfl, h2, rfl⟩ := h
  obtain ⟨a, rfl⟩ := is_strs (by simpa only [Sh.Is] using h1)
  obtain ⟨b, rfl⟩ := is_strs (by simpa only [Sh.Is] using h2)
  exact ⟨a, b, rfl⟩

theorem is_str {v : V} (h : Sh.Is .str v) : ∃ s : S, v = .str s := h

theorem makes_lifted (os : Os) (started : os.Started) (H : Type) (enc : TypeId × Value → H) :
    ReturnsInHanded {} Try.checked os 4 .any (Rows.tableMakesSpec.pre6 enc Try.prog Try.f4 Rows.tableMakesRow.domain false) (Rows.tableMakesSpec.post enc Try.prog Try.f4 false true false false) := by
  refine returnsInHanded_of_change (C := Try.checked) own started (by kernel_rfl) Try.func4
    (ChangeSpec.witness6 (enc := enc) (C := Try.checked) false ⟨#[], #[.agg #[.slice none 0 0, .slice none 0 0], .agg #[.slice none 0 0, .slice none 0 0], .slice none 0 0], []⟩ 8 (by kernel_rfl) (by kernel_rfl) (by kernel_rfl) (by kernel_rfl)) ?_
  intro W base args ds gs before hval hW _ _
  refine law_contract (P := Try.prog) (shs := [shTab, shTab, .slice .str]) laid rfl ?_ (by kernel_rfl) ⟨_, rfl, by kernel_rfl⟩ rfl ?_ ?_ W base args ds gs before hval hW
  · intro i sh t h1 h2
    have : i < 3 := by have := (List.getElem?_eq_some_iff.1 h1).1; simpa using this
    have k1 : Sh.ok Try.prog shTab 24 = true := by kernel_rfl
    have k2 : Sh.ok Try.prog (.slice .str) 22 = true := by kernel_rfl
    match i, this with
    | 0, _ => cases h1; cases h2; exact k1
    | 1, _ => cases h1; cases h2; exact k1
    | 2, _ => cases h1; cases h2; exact k2
  · intro ds hd
    match ds, hd with
    | [d1, d2, d3], _ => exact ⟨rfl, rfl, rfl⟩
  · intro us hus
    simp only [Sh.Iss] at hus
    obtain ⟨u1, _, rfl, h1, u2, _, rfl, h2, u3, _, rfl, h3, rfl⟩ := hus
    obtain ⟨a, b, rfl⟩ := is_tab h1
    obtain ⟨c, d, rfl⟩ := is_tab h2
    obtain ⟨s, rfl⟩ := is_strs h3
    exact ev_makes a b c d s

theorem makes_holds : Rows.TableMakesSaid :=
  OpenClaim.holds_of_wide 4 Try.f4 rfl rfl rfl rfl rfl rfl rfl ⟨rfl, rfl, rfl, rfl, rfl⟩ rfl rfl rfl rfl rfl (by kernel_rfl) Try.func4 (by kernel_rfl)
    (of_decide_eq_true (by kernel_rfl)) (by unfold Func.isWrapper; first | (rw [if_pos (by decide +kernel)]; kernel_rfl) | (rw [if_neg (by decide +kernel)]; exact ⟨rfl, rfl⟩))
    (fun os started H enc _ => makes_lifted os started H enc)

#print axioms makes_holds

end Go.Proofs.Ytljpjeclnceddaa
