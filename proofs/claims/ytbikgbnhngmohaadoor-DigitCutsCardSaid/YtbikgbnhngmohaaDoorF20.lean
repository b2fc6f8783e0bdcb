/- Functions of the program, part 20. -/
import Derived.Test.YtbikgbnhngmohaaDoorF13
import Derived.Test.YtbikgbnhngmohaaDoorA9
import Derived.Test.YtbikgbnhngmohaaDoorRows
import Derived.Test.YtbikgbnhngmohaaDoorTie
import Derived.LaidHandle
import Derived.LaidMore
import Derived.Stop.LaidErr
import Derived.Lib.LaidTab
set_option linter.unusedVariables false
set_option linter.unusedSimpArgs false
set_option linter.unnecessarySimpa false
namespace Go.Proofs.YtbikgbnhngmohaaDoor
open Go Go.Proofs Go.Abs Go.RowKit

theorem own : ownKnob Tryd.prog.godebug = none := by kernel_rfl
theorem laid : laidOutB Tryd.prog = true := by kernel_rfl

/-- What the rows list. -/
abbrev LL : List (String × DataW Unit) := [("math/bits.deBruijn32tab", Rows.laid_math_bits_deBruijn32tab), ("math/bits.deBruijn64tab", Rows.laid_math_bits_deBruijn64tab), ("internal/strconv.uint64pow10", Rows.laid_internal_strconv_uint64pow10), ("errors.errorType", Rows.laid_errors_errorType), ("strconv.ErrRange", Rows.laid_strconv_ErrRange), ("strconv.ErrSyntax", Rows.laid_strconv_ErrSyntax)]

set_option maxRecDepth 100000 in
/-- What the program's own start lays meets the condition. -/
theorem door_met (os : Os) (args : Array Value) : laidMetH Tryd.prog LL ((World.doorLaid Tryd.prog 400 os).forCall (fun _ _ => 0) ⟨#[], args, []⟩).memory :=
  laidMetH_of_parts3 (fuel := 8) (laidMet_of_run' 8 (by kernel_rfl) (by kernel_rfl)) (by kernel_rfl) (by kernel_rfl)

theorem iface_of_trod {H : Type} {enc : TypeId × Value → H} {P : Program} {w : World} {base : Nat} {sp : Nat → Bool} {fuel : Nat} {t : TypeId} {ms : Array (String × TypeId)} {cs : List Value} {nm : String} {d : DataW H} {p : List MemPlace}
    (ht : P.underlying t = some (.interface ms)) (h : DataW.trod enc P w base sp false fuel t cs = some (.iface nm d, p)) : ∃ u v, cs = [.iface u v] := by
  cases fuel with
  | zero => simp [DataW.trod] at h
  | succ fuel =>
    simp only [DataW.trod, ht] at h
    split at h <;> first | exact ⟨_, _, rfl⟩ | simp_all

theorem cells_of_var {P : Program} {w : World} {n : String} {g : Nat} {cs : Array Value} (hg : P.globalNamed n = some g) (h : w.var? P n = some cs) : ∃ ty fz, w.heap[g]? = some (.cells cs ty fz) := by
  unfold World.var? at h
  rw [hg, Option.bind_some] at h
  split at h
  · cases h; exact ⟨_, _, by assumption⟩
  · cases h

theorem sent_of {W : World} {n nm : String} {d : DataW Unit} {r : List (String × DataW Unit)} {g : Nat} {t : TypeId} {ms : Array (String × TypeId)}
    (h : laidMet Tryd.prog ((n, .iface nm d) :: r) W) (hg : Tryd.prog.globalNamed n = some g) (hty : (Tryd.prog.globals[g]?).map (·.type) = some t) (ht : Tryd.prog.underlying t = some (.interface ms)) :
    ∃ cs ty fz, W.heap[g]? = some (.cells cs ty fz) ∧ ∃ te pe, cs = #[.iface te pe] := by
  obtain ⟨ps, ⟨g', t', cs, fuel, p, q, hg', ht', hvar, hd, _, _⟩, _⟩ := h
  obtain rfl := Option.some.inj (hg.symm.trans hg')
  obtain rfl := Option.some.inj (hty.symm.trans ht')
  obtain ⟨u, v, hcs⟩ := iface_of_trod ht hd
  obtain ⟨ty, fz, h1⟩ := cells_of_var hg hvar
  exact ⟨cs, ty, fz, h1, u, v, Array.toList_inj.1 hcs⟩

theorem oneError : ((List.range Tryd.prog.types.size).filter fun t => Tryd.prog.rowNamed t [101, 114, 114, 111, 114]) = [42] := by kernel_rfl
theorem rtypeIs : (Tryd.prog.cutTypes.find? (·.1 == "internal/reflectlite.rtype")).map (·.2) = some 75 := by kernel_rfl
theorem errHandle : typeHandle Tryd.prog 42 = .pointer (some ⟨6, 42, none⟩) := by kernel_rfl
set_option maxRecDepth 100000 in
/-- What the condition gives the walks. -/
theorem of_laid {W : World} (h : laidMetH Tryd.prog LL W) : ∀ g p, TE.gx g = some p → ∃ cs ty fz, W.heap[g]? = some (.cells cs ty fz) ∧ p cs := by
  have h' : laidMet Tryd.prog [("math/bits.deBruijn32tab", Rows.laid_math_bits_deBruijn32tab), ("math/bits.deBruijn64tab", Rows.laid_math_bits_deBruijn64tab), ("internal/strconv.uint64pow10", Rows.laid_internal_strconv_uint64pow10), ("strconv.ErrRange", Rows.laid_strconv_ErrRange), ("strconv.ErrSyntax", Rows.laid_strconv_ErrSyntax)] W ∧ handlesMet Tryd.prog [("errors.errorType", Rows.laid_errors_errorType)] W := h
  have h3 := h'.1.tail.tail
  have h4 := h3.tail
  have h5 := h4.tail
  intro g p hg
  match g, hg with
  | 0, hg =>
    have hp : (fun cs => cs = #[.iface 75 (.agg #[.pointer (some ⟨6, 42, none⟩)])]) = p := Option.some.inj hg
    subst hp
    obtain ⟨name, u, ty, e1, e2, e3, e4, e5⟩ := h'.2 _ (List.mem_singleton.2 rfl)
    have en : name = [101, 114, 114, 111, 114] := (Option.some.inj e1).symm
    subst en
    obtain rfl := Option.some.inj (rtypeIs.symm.trans e2)
    have hm : ty ∈ (List.range Tryd.prog.types.size).filter fun t => Tryd.prog.rowNamed t [101, 114, 114, 111, 114] := List.mem_filter.2 ⟨List.mem_range.2 e3, e4⟩
    rw [oneError] at hm
    obtain rfl := List.mem_singleton.1 hm
    rw [errHandle] at e5
    obtain ⟨ty, fz, h1⟩ := cells_of_var (g := 0) (by kernel_rfl) e5
    exact ⟨_, ty, fz, h1, rfl⟩
  | 1, hg =>
    have hp : (fun cs => cs = (Lib.pow10Tab.map fun z => Value.int .u64 z).toArray) = p := Option.some.inj hg
    subst hp
    have ht := Lib.tabIs_of_head (P := Tryd.prog) (name := "internal/strconv.uint64pow10") (k := .u64) (zs := Lib.pow10Tab) (g := 1) (t := 96) (e := 69) (n := 20) (by kernel_rfl) (by kernel_rfl) (by kernel_rfl) (by kernel_rfl) (by kernel_rfl) (by kernel_rfl) h3
    obtain ⟨ty, fz, h1⟩ := cells_of_var (g := 1) (by kernel_rfl) ht
    exact ⟨_, ty, fz, h1, rfl⟩
  | 2, hg =>
    have hp : (fun cs => ∃ te pe, cs = #[Value.iface te pe]) = p := Option.some.inj hg
    subst hp
    exact sent_of h5 (by kernel_rfl) (t := 42) (by kernel_rfl) Tryd.underlying42
  | 3, hg =>
    have hp : (fun cs => ∃ te pe, cs = #[Value.iface te pe]) = p := Option.some.inj hg
    subst hp
    exact sent_of h4 (by kernel_rfl) (t := 42) (by kernel_rfl) Tryd.underlying42
  | n + 4, hg => exact absurd hg (by intro h; cases h)

theorem is_str {v : V} (h : Sh.Is .str v) : ∃ s : By, v = .str s := h
theorem is_int {v : V} (h : Sh.Is (.int .i64) v) : ∃ n : Int, v = vi n ∧ -9223372036854775808 ≤ n ∧ n < 9223372036854775808 := by
  obtain ⟨n, rfl, hw⟩ := h
  refine ⟨n, rfl, ?_⟩
  simp [Lit.wf, IntKind.min, IntKind.max, IntKind.signed, IntKind.bits] at hw
  omega
theorem is_u8 {v : V} (h : Sh.Is (.int .u8) v) : ∃ c : UInt8, v = .int .u8 c.toNat := by
  obtain ⟨n, rfl, hw⟩ := h
  simp [Lit.wf, IntKind.min, IntKind.max, IntKind.signed, IntKind.bits] at hw
  refine ⟨UInt8.ofNat n.toNat, ?_⟩
  rw [UInt8.toNat_ofNat']
  congr 1
  omega

end Go.Proofs.YtbikgbnhngmohaaDoor
